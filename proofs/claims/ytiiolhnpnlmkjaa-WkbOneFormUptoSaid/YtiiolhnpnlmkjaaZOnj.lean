/- Texts of this claim laid one behind the other (TGrown; TParseL; TWalk): what each proves stands at its own names; the last one is the claim's. No conditions but those told. -/
import Derived.Test.YtiiolhnpnlmkjaaZOni
namespace Go.Proofs.Ytiiolhnpnlmkjaa.Tree
open Go.RowKit Go.Proofs.Ytiiolhnpnlmkjaa.PWkbPrints Go.Proofs.YtiiolhnpnlmkjaaW.PrintWords Go.Proofs.YtiiolhnpnlmkjaaW.PrintLast Go.Proofs.YtiiolhnpnlmkjaaW.PrintMore Go.Proofs.Ytiiolhnpnlmkjaa.PMk
attribute [local go_sem] Oper.semAt_some max2_int max_two min2_int min_two
set_option maxRecDepth 100000 in
set_option maxHeartbeats 16000000 in
theorem grown_calls (A : Option Addr) (c : Nat) (l : List Wn) (W : World) (hC : Kd.C kWn W A l.length l) (hl : l.length ≤ 1048576) (hxl : ∀ x ∈ l, x.f2.length ≤ 1048576) (hxy : Xy l) :
    Calls Try.prog 5 #[.slice A l.length c] W fun e W' => ∃ u, e = .returned (.tuple #[u, .bool true]) ∧ CopyOf 6 W W' u (treeM l) ∧ Below W.heap.size W W' := by
  have hu := Try.underlying28
  have hum := Try.underlying61
  have hmx : Try.prog.follows .mixedOrders = true := by kernel_rfl
  have HC := Aside0.mk hC
  have HT := Aside0.mk (treeM_ok hxy)
  clear hC
  go_enter Try.func5, Try.ntmps5
  go_upto_region 1 with fail
  obtain ⟨gs, hgs⟩ : ∃ y, y = W.heap.size := ⟨_, rfl⟩
  obtain ⟨W0, hW0⟩ : ∃ y, y = W.alloc (.cells #[.int .i64 0, .slice none 0 0, .slice none 0 0, .slice none 0 0] 28) := ⟨_, rfl⟩
  rw [← hW0, ← hgs]
  have hb0 : Below W.heap.size W W0 := by rw [hW0]; exact below_alloc (Below.refl _ _) _
  have H0 := Aside0.mk (And.intro hb0 (show W0.heap[gs]? = some (.cells #[.int .i64 0, .slice none 0 0, .slice none 0 0, .slice none 0 0] 28 (0, 0)) by rw [hW0, hgs]; exact World.alloc_heap_new _ _))
  have HGS := Aside0.mk (show W.heap.size ≤ gs by omega)
  clear hW0 hgs hb0
  go_upto_region 2 with fail
  obtain ⟨gm, hgm⟩ : ∃ y, y = W0.heap.size := ⟨_, rfl⟩
  obtain ⟨W1, hW1⟩ : ∃ y, y = W0.alloc (.cells #[.slice A l.length c, .int .i64 0] 61) := ⟨_, rfl⟩
  rw [← hW1, ← hgm]
  have hb1 : Below W0.heap.size W0 W1 := by rw [hW1]; exact below_alloc (Below.refl _ _) _
  have hk1 : Mk W W1 gm l A c 0 := ⟨by rw [hW1, hgm]; exact World.alloc_heap_new _ _, HC.out, by rw [hgm]; exact H0.out.1.size, below_step H0.out.1 hb1, by omega⟩
  have H1 := Aside0.mk (And.intro hk1 (blk_below H0.out.2 hb1))
  clear hW1 hgm hb1 hk1 H0
  go_wp2_with fail
  refine (mgeom_calls 6 W W1 gm l A c 0 0 6 H1.out.1 hl hxl (by decide) (by decide) (by decide) (by decide) (by decide)).mono ?_
  rintro e W2 ⟨u, rfl, hcp, hk2, hv2⟩
  have hcp' : CopyOf 6 W1 W2 u (treeM l) := hcp
  have HGW := Aside0.mk (show W.heap.size ≤ W1.heap.size ∧ gs < W1.heap.size from ⟨H1.out.1.K.size, blk_lt H1.out.2⟩)
  obtain ⟨g, hg⟩ : ∃ y, y = treeM l := ⟨_, rfl⟩
  rw [← hg] at hcp' HT
  have HGE := Aside0.mk hg
  have hag := hcp'.isG
  obtain ⟨A1, c1, A2, c2, A3, c3, rfl, _⟩ := hag
  have H2 := Aside0.mk (And.intro hk2.K (And.intro hcp' (H1.out.1.keepB hv2 H1.out.2 (by decide))))
  clear hcp hk2 hv2 hcp' H1 hg
  go_upto_region 3 with fail
  obtain ⟨gt, hgt⟩ : ∃ y, y = W2.heap.size := ⟨_, rfl⟩
  obtain ⟨W3, hW3⟩ : ∃ y, y = W2.alloc (.cells #[.int .i64 g.f0, .slice A1 g.f1.length c1, .slice A2 g.f2.length c2, .slice A3 g.f3.length c3] 28) := ⟨_, rfl⟩
  rw [← hW3, ← hgt]
  have hb3 : Below W2.heap.size W2 W3 := by rw [hW3]; exact below_alloc (Below.refl _ _) _
  have H3 := Aside0.mk (And.intro (below_step H2.out.1 hb3) (And.intro (H2.out.2.1.below hb3) (And.intro (blk_below H2.out.2.2 hb3) (show W3.heap[gt]? = some (.cells #[.int .i64 g.f0, .slice A1 g.f1.length c1, .slice A2 g.f2.length c2, .slice A3 g.f3.length c3] 28 (0, 0)) by rw [hW3, hgt]; exact World.alloc_heap_new _ _))))
  have HGT := Aside0.mk (show gs < gt by have := blk_lt H2.out.2.2; omega)
  clear hW3 hgt hb3 H2
  have hbd : Below W3.heap.size W3 W3.drew := below_drew (Below.refl _ _)
  have H4 := Aside0.mk (And.intro (below_step H3.out.1 hbd) (And.intro (H3.out.2.1.below hbd) (And.intro (blk_below H3.out.2.2.1 hbd) (blk_below H3.out.2.2.2 hbd))))
  refine start_ (n := 6) (S := fun w' => w'.cell? ⟨gt, 0, none⟩ = some (.int .i64 g.f0) ∧ w'.cell? ⟨gt, 1, none⟩ = some (.slice A1 g.f1.length c1) ∧ w'.cell? ⟨gt, 2, none⟩ = some (.slice A2 g.f2.length c2) ∧ w'.cell? ⟨gt, 3, none⟩ = some (.slice A3 g.f3.length c3) ∧ True) (ds := []) #[false, false, false, false, false, false] hmx rfl rfl ⟨(blk_cell H4.out.2.2.2 0).trans rfl, (blk_cell H4.out.2.2.2 1).trans rfl, (blk_cell H4.out.2.2.2 2).trans rfl, (blk_cell H4.out.2.2.2 3).trans rfl, trivial⟩ (fun hHeld => ?_)
  clear H3 hbd
  generalize W3.drew = Wd at *
  (refine take_ (i := 0) (N := some 11) (v := ?_) (a' := ?_) #[true, false, false, false, false, false] rfl rfl (by kernel_rfl) (fun _ _ _ h => h) (Or.inl ⟨by rfl, ?_⟩) hHeld ?_ ?_; rotate_left; (focus (intro w'_ hs_; (repeat obtain ⟨_, hs_⟩ := hs_); go_simp; with_reducible rfl)); rotate_left; (focus (simp only [Act.put, List.setIfInBounds_toArray, List.set_cons_zero, List.set_cons_succ]; rfl)))
  (refine take_ (i := 1) (N := some 12) (v := ?_) (a' := ?_) #[true, true, false, false, false, false] rfl rfl (by kernel_rfl) (fun _ _ _ h => h) (Or.inl ⟨by rfl, ?_⟩) hHeld ?_ ?_; rotate_left; (focus (intro w'_ hs_; (repeat obtain ⟨_, hs_⟩ := hs_); go_simp; with_reducible rfl)); rotate_left; (focus (simp only [Act.put, List.setIfInBounds_toArray, List.set_cons_zero, List.set_cons_succ]; rfl)))
  refine one_ (i := 2) (N := some 13) #[true, true, true, false, false, false] rfl rfl (by kernel_rfl) (by decide) (fun K hK => ?_)
  refine goes_ Try.func12 (by kernel_rfl) rfl #[.agg #[.int .i64 g.f0, .slice A1 g.f1.length c1, .slice A2 g.f2.length c2, .slice A3 g.f3.length c3]] (by rfl) rfl rfl (by (try simp only [List.map_toArray, List.map_cons, List.map_nil]); first | done | rfl) ?_
  refine (check_calls _ g Wd H4.out.2.1.isG (by have := HT.out.2.2.1; omega)).mono ?_
  rintro e W5 ⟨ev, rfl, hev, hb5⟩
  rw [HT.out.2.2.2] at hev
  obtain rfl : ev = .nilIface := hev
  have H5 := Aside0.mk (And.intro (below_step H4.out.1 hb5) (And.intro (H4.out.2.1.below hb5) (And.intro (blk_below H4.out.2.2.1 hb5) (blk_below H4.out.2.2.2 hb5))))
  refine ⟨_, rfl, hK.out _ _ ⟨(blk_cell H5.out.2.2.2 0).trans rfl, (blk_cell H5.out.2.2.2 1).trans rfl, (blk_cell H5.out.2.2.2 2).trans rfl, (blk_cell H5.out.2.2.2 3).trans rfl, trivial⟩ (fun hHeld2 => ?_)⟩
  clear hK K hHeld hb5 H4
  (refine norm_ (a' := ?_) ?_ ?_; rotate_left; focus (show Act.put _ (some 13) _ = _; simp only [Act.put, List.setIfInBounds_toArray, List.set_cons_zero, List.set_cons_succ]; rfl))
  (refine pure_ (i := 3) (N := some 14) (v := ?_) (a' := ?_) #[true, true, true, true, false, false] rfl rfl (by kernel_rfl) (fun _ _ _ h => h) (Or.inl ⟨by rfl, ?_⟩) ?_ ?_; rotate_left; (focus (intro w'_; go_simp; with_reducible rfl)); rotate_left; (focus (simp only [Act.put, List.setIfInBounds_toArray, List.set_cons_zero, List.set_cons_succ]; rfl)))
  refine one_ (i := 4) (N := none) #[true, true, true, true, true, false] rfl rfl (by kernel_rfl) (by decide) (fun K hK => ?_)
  have hs0 : W5.cell? ⟨gs, 0, none⟩ = some (.int .i64 0) := (blk_cell H5.out.2.2.1 0).trans rfl
  have hs1 : W5.cell? ⟨gs, 1, none⟩ = some (.slice none 0 0) := (blk_cell H5.out.2.2.1 1).trans rfl
  have hs2 : W5.cell? ⟨gs, 2, none⟩ = some (.slice none 0 0) := (blk_cell H5.out.2.2.1 2).trans rfl
  have hs3 : W5.cell? ⟨gs, 3, none⟩ = some (.slice none 0 0) := (blk_cell H5.out.2.2.1 3).trans rfl
  have hf0 := blk_frozen H5.out.2.2.1 0
  have hf1 := blk_frozen H5.out.2.2.1 1
  have hf2 := blk_frozen H5.out.2.2.1 2
  have hf3 := blk_frozen H5.out.2.2.1 3
  refine skip_ (w1 := ?_) (by rfl) rfl ?_ ?_
  rotate_left
  · go_simp
    rfl
  have hgg := H5.out.2.2
  have hne : gs ≠ gt := fun e => by
    have h1 := HGT.out
    rw [e] at h1
    exact absurd h1 (Nat.lt_irrefl _)
  obtain ⟨W6, hW6⟩ : ∃ y, y = (((W5.setCell ⟨gs, 0, none⟩ (.int .i64 g.f0)).setCell ⟨gs, 1, none⟩ (.slice A1 g.f1.length c1)).setCell ⟨gs, 2, none⟩ (.slice A2 g.f2.length c2)).setCell ⟨gs, 3, none⟩ (.slice A3 g.f3.length c3) := ⟨_, rfl⟩
  rw [← hW6]
  have hs6 : W6.heap[gs]? = some (.cells #[.int .i64 g.f0, .slice A1 g.f1.length c1, .slice A2 g.f2.length c2, .slice A3 g.f3.length c3] 28 (0, 0)) := by
    rw [hW6]
    simpa using blk_set (blk_set (blk_set (blk_set hgg.1 0 (.int .i64 g.f0)) 1 (.slice A1 g.f1.length c1)) 2 (.slice A2 g.f2.length c2)) 3 (.slice A3 g.f3.length c3)
  have ht6 : W6.heap[gt]? = some (.cells #[.int .i64 g.f0, .slice A1 g.f1.length c1, .slice A2 g.f2.length c2, .slice A3 g.f3.length c3] 28 (0, 0)) := by
    rw [hW6]
    exact (Below.heap_setCell _ ⟨gs, 3, none⟩ _ gt (Ne.symm hne)).trans ((Below.heap_setCell _ ⟨gs, 2, none⟩ _ gt (Ne.symm hne)).trans ((Below.heap_setCell _ ⟨gs, 1, none⟩ _ gt (Ne.symm hne)).trans ((Below.heap_setCell _ ⟨gs, 0, none⟩ _ gt (Ne.symm hne)).trans hgg.2)))
  have hb6 : Below W.heap.size W W6 := by
    rw [hW6]
    exact (((H5.out.1.setCell (p := ⟨gs, 0, none⟩) HGS.out _).setCell (p := ⟨gs, 1, none⟩) HGS.out _).setCell (p := ⟨gs, 2, none⟩) HGS.out _).setCell (p := ⟨gs, 3, none⟩) HGS.out _
  have hc6 : CopyOf 6 W W6 (.agg #[.int .i64 g.f0, .slice A1 g.f1.length c1, .slice A2 g.f2.length c2, .slice A3 g.f3.length c3]) g := by
    rw [hW6]
    exact CopyOf.lower ((((H5.out.2.1.setG HGW.out.2).setG HGW.out.2).setG HGW.out.2).setG HGW.out.2) HGW.out.1
  refine hK.out _ _ ⟨(blk_cell ht6 0).trans rfl, (blk_cell ht6 1).trans rfl, (blk_cell ht6 2).trans rfl, (blk_cell ht6 3).trans rfl, trivial⟩ (fun hHeld => ?_)
  clear hK K hHeld2 hs0 hs1 hs2 hs3 hf0 hf1 hf2 hf3 hgg hne
  have HF := Aside0.mk (And.intro hs6 (And.intro hb6 hc6))
  clear hs6 ht6 hb6 hc6 hW6 H5
  (refine pure_ (i := 5) (N := some 3) (v := ?_) (a' := ?_) #[true, true, true, true, true, true] rfl rfl (by kernel_rfl) (fun _ _ _ h => h) (Or.inl ⟨by rfl, ?_⟩) ?_ ?_; rotate_left; (focus (intro w'_; go_simp; with_reducible rfl)); rotate_left; (focus (simp only [Act.put, List.setIfInBounds_toArray, List.set_cons_zero, List.set_cons_succ]; rfl)))
  refine done_ (by kernel_rfl) ?_
  clear hHeld
  go_wp2_with fail
  refine bodyPost_ret (results_geom2 (a := 2) (c := 3) (by rfl) _ _ (by rfl) (by simpa using HF.out.1)) rfl ?_
  rw [← HGE.out]
  exact ⟨_, rfl, HF.out.2.2, HF.out.2.1⟩
end Go.Proofs.Ytiiolhnpnlmkjaa.Tree
namespace Go.Proofs.Ytiiolhnpnlmkjaa.Tree
open Go.RowKit Go.Proofs.Ytiiolhnpnlmkjaa.PWkbPrints Go.Proofs.YtiiolhnpnlmkjaaW.PrintWords Go.Proofs.YtiiolhnpnlmkjaaW.PrintLast Go.Proofs.YtiiolhnpnlmkjaaW.PrintMore
theorem st_self (X : List Int) : St X 0 X := ⟨[], by simp⟩
theorem parsed_print (os : List Bool) (g : Ge) (depth most : Int) (hG : AllG g 1 0) (hbk : g.bulk ≤ 2097152) (hd : ∀ x ∈ nodes g 1 0, x.f1 ≤ min depth 256) (hm : ((geoB os g 0).length : Int) ≤ min (max most 0) 65536) :
    parsedR (geoB os g 0) depth most = .ok (g, ords os 0 (cntG g)) := by
  unfold parsedR
  rw [if_neg (by omega)]
  have h := (geom2 (c := geoB os g 0) (k := (geoB os g 0).length) (b := geoB os g 0) (List.take_length).symm (Nat.le_refl _) os (min depth 256) g.bulk g 1 0 0 0 257 (Nat.le_refl _) (by omega) hG hd (by omega) (.inl rfl) (st_self _) (Nat.zero_le _)).y (by omega)
  rw [h]
  dsimp only
  rw [if_neg (by omega)]
theorem parsed_back {b : List Int} (hb : Byt b) {depth most : Int} {r : Ge × List Bool} (h : parsedR b depth most = .ok r) : b.length ≤ 65536 ∧ Bk b (min depth 256) 0 1 0 r.1 b.length r.2 ∧ checkR r.1 = none := by
  unfold parsedR at h
  by_cases h1 : min (max most 0) 65536 < (b.length : Int)
  · rw [if_pos h1] at h; cases h
  rw [if_neg h1] at h
  rcases hg : geomR b (min depth 256) 257 0 1 0 with y | ⟨g, a', os'⟩
  · rw [hg] at h; cases h
  · rw [hg] at h
    dsimp only at h
    have hk := back_of hb (min depth 256) 257 0 1 0 g a' os' hg (Nat.zero_le _) (.inl rfl)
    split at h
    · cases h
    · rename_i hn
      injection h with h
      subst h
      have he := hk.e
      have hu := hk.u
      have ha : a' = b.length := by omega
      subst ha
      exact ⟨by omega, hk, check_ok hk.G (fun x hx => by have := hk.d x hx; omega) (by dsimp only; omega)⟩
theorem parse_ok (A : Option Addr) (c : Nat) (b : List Int) (depth most : Int) (W : World) (g : Ge) (os : List Bool) (hC : kB.C W A b.length b) (hc : b.length ≤ c) (hl : b.length ≤ 1048576) (h : parsedR b depth most = .ok (g, os)) :
    Calls Try.prog 9 #[.slice A b.length c, .int .i64 depth, .int .i64 most] W fun e W' => ∃ A1 c1 A2 c2 A3 c3, e = .returned (.tuple #[.agg #[.int .i64 g.f0, .slice A1 g.f1.length c1, .slice A2 g.f2.length c2, .slice A3 g.f3.length c3], .nilIface]) ∧
      CopyOf 257 W W' (.agg #[.int .i64 g.f0, .slice A1 g.f1.length c1, .slice A2 g.f2.length c2, .slice A3 g.f3.length c3]) g ∧ Below W.heap.size W W' := by
  refine (parse_calls A c b depth most W hC hc hl).mono ?_
  rintro e W' ⟨u, ev, rfl, hb, -, hO⟩
  obtain ⟨rfl, hcp⟩ := hO _ h
  obtain ⟨A1, c1, A2, c2, A3, c3, rfl, _⟩ := hcp.isG
  exact ⟨A1, c1, A2, c2, A3, c3, rfl, hcp, hb⟩
theorem parse_err (A : Option Addr) (c : Nat) (b : List Int) (depth most : Int) (W : World) (x : Int × Int) (hC : kB.C W A b.length b) (hc : b.length ≤ c) (hl : b.length ≤ 1048576) (h : parsedR b depth most = .error x) :
    Calls Try.prog 9 #[.slice A b.length c, .int .i64 depth, .int .i64 most] W fun e W' => ∃ ge : Nat, e = .returned (.tuple #[.agg #[.int .i64 0, .slice none 0 0, .slice none 0 0, .slice none 0 0], .iface 107 (.pointer (some ⟨ge, 0, none⟩))]) ∧
      ErrV W' (.iface 107 (.pointer (some ⟨ge, 0, none⟩))) (some x) ∧ Below W.heap.size W W' := by
  refine (parse_calls A c b depth most W hC hc hl).mono ?_
  rintro e W' ⟨u, ev, rfl, hb, hE, -⟩
  obtain ⟨rfl, hev⟩ := hE _ h
  obtain ⟨ge, rfl⟩ := ErrV.iface hev
  exact ⟨ge, rfl, hev, hb⟩
end Go.Proofs.Ytiiolhnpnlmkjaa.Tree
namespace Go.Proofs.Ytiiolhnpnlmkjaa.Tree
open Go.RowKit Go.Proofs.Ytiiolhnpnlmkjaa.PWkbPrints Go.Proofs.YtiiolhnpnlmkjaaW.PrintWords Go.Proofs.YtiiolhnpnlmkjaaW.PrintLast Go.Proofs.YtiiolhnpnlmkjaaW.PrintMore
attribute [local go_sem] Oper.semAt_some max2_int max_two min2_int min_two
mutual
/-- How many bytes the walk goes over. -/
def sizeW : Ge → Nat
  | ⟨k, l, r, ps⟩ => if k = 1 then 21 else if k = 2 then 9 + 16 * l.length else if k = 3 then 9 + (4 * r.length + 16 * r.flatten.length) else 9 + sizesW ps
def sizesW : List Ge → Nat
  | [] => 0
  | p :: ps => sizeW p + sizesW ps
end
theorem sizeW_eq (g : Ge) : sizeW g = if g.f0 = 1 then 21 else if g.f0 = 2 then 9 + 16 * g.f1.length else if g.f0 = 3 then 9 + (4 * g.f2.length + 16 * g.f2.flatten.length) else 9 + sizesW g.f3 := by
  cases g; simp only [sizeW]
theorem putAt_len {b v : List Int} {p : Nat} (h : p + v.length ≤ b.length) : (putAt b p v).length = b.length := by
  unfold putAt
  rw [List.length_append, List.length_append, List.length_take, List.length_drop]
  omega
theorem putAt_nil (b : List Int) (p : Nat) : putAt b p [] = b := by unfold putAt; simp
theorem putAt_snoc {b v : List Int} {p j : Nat} (hj : j < v.length) (h : p + v.length ≤ b.length) : (putAt b p (v.take j)).set (p + j) (v.getD j 0) = putAt b p (v.take (j + 1)) := by
  unfold putAt
  rw [List.length_take, List.length_take, Nat.min_eq_left (by omega), Nat.min_eq_left (by omega), List.take_succ_eq_append_getElem hj, List.drop_eq_getElem_cons (show p + j < b.length by omega),
    List.set_append_right _ _ (by rw [List.length_take]; omega), List.length_take, Nat.min_eq_left (by omega), List.set_append_right _ _ (by rw [List.length_take]; omega), List.length_take, Nat.min_eq_left (by omega),
    show p + j - p - j = 0 from by omega, List.set_cons_zero, List.getD_eq_getElem?_getD, List.getElem?_eq_getElem hj, Option.getD_some, show p + (j + 1) = p + j + 1 from by omega]
  simp only [List.append_assoc, List.singleton_append]
theorem walk_size (n : Nat) : (∀ (g : Ge) (s : List Int × Nat), g.bulk ≤ n → s.2 + sizeW g ≤ s.1.length → (walkG g s).2 = s.2 + sizeW g ∧ (walkG g s).1.length = s.1.length) ∧
    (∀ (l : List Ge) (s : List Int × Nat), bulks l ≤ n → s.2 + sizesW l ≤ s.1.length → (walkL l s).2 = s.2 + sizesW l ∧ (walkL l s).1.length = s.1.length) := by
  induction n with
  | zero =>
    refine ⟨fun g s h => by have := g.bulk_eq; omega, fun l s h _ => ?_⟩
    cases l with
    | nil => rw [walkL, sizesW]; exact ⟨rfl, rfl⟩
    | cons p l => rw [bulks] at h; have := p.bulk_eq; omega
  | succ n ih =>
    have hg : ∀ (g : Ge) (s : List Int × Nat), g.bulk ≤ n + 1 → s.2 + sizeW g ≤ s.1.length → (walkG g s).2 = s.2 + sizeW g ∧ (walkG g s).1.length = s.1.length := by
      intro g s hb hs
      rw [sizeW_eq] at hs ⊢
      rw [walkG_eq]
      have hq := g.bulk_eq
      by_cases k1 : g.f0 = 1
      · rw [if_pos k1] at hs ⊢
        rw [if_pos k1]
        refine ⟨by dsimp only, ?_⟩
        dsimp only
        split
        · exact putAt_len (by rw [ptB_len]; omega)
        · rfl
      rw [if_neg k1] at hs ⊢
      rw [if_neg k1]
      by_cases k2 : g.f0 = 2
      · rw [if_pos k2] at hs ⊢
        rw [if_pos k2]
        exact ⟨by dsimp only; omega, rfl⟩
      rw [if_neg k2] at hs ⊢
      rw [if_neg k2]
      by_cases k3 : g.f0 = 3
      · rw [if_pos k3] at hs ⊢
        rw [if_pos k3]
        exact ⟨by dsimp only; omega, rfl⟩
      rw [if_neg k3] at hs ⊢
      rw [if_neg k3]
      have := ih.2 g.f3 (s.1, s.2 + 5 + 4) (by omega) (by dsimp only; omega)
      dsimp only at this
      exact ⟨by omega, this.2⟩
    refine ⟨hg, fun l => ?_⟩
    induction l with
    | nil => intro s _ _; rw [walkL, sizesW]; exact ⟨rfl, rfl⟩
    | cons p l ihl =>
      intro s hb hs
      rw [bulks] at hb
      rw [sizesW] at hs ⊢
      rw [walkL]
      obtain ⟨h1, h2⟩ := hg p s (by omega) (by omega)
      obtain ⟨h3, h4⟩ := ihl (walkG p s) (by omega) (by omega)
      exact ⟨by omega, by omega⟩
theorem sizesW_snoc (l : List Ge) (p : Ge) : sizesW (l ++ [p]) = sizesW l + sizeW p := by
  induction l with
  | nil => simp [sizesW]
  | cons q l ih => simp only [List.cons_append, sizesW, ih]; omega
theorem sizesW_take (l : List Ge) (i : Nat) : sizesW (l.take i) ≤ sizesW l := by
  induction l generalizing i with
  | nil => simp
  | cons q l ih =>
    cases i with
    | zero => simp [sizesW]
    | succ i => simp only [List.take_succ_cons, sizesW]; have := ih i; omega
/-- Between two worlds two blocks are changed alone. -/
structure Kw (Ws W : World) (gf gb : Nat) : Prop where
  s : Ws.heap.size ≤ W.heap.size
  k : ∀ j, j < Ws.heap.size → j ≠ gf → j ≠ gb → W.heap[j]? = Ws.heap[j]?
theorem Kw.refl (W : World) (gf gb : Nat) : Kw W W gf gb := ⟨Nat.le_refl _, fun _ _ _ _ => rfl⟩
theorem Kw.trans {W1 W2 W3 : World} {gf gb : Nat} (h : Kw W1 W2 gf gb) (k : Kw W2 W3 gf gb) : Kw W1 W3 gf gb :=
  ⟨Nat.le_trans h.s k.s, fun j hj h1 h2 => (k.k j (Nat.lt_of_lt_of_le hj h.s) h1 h2).trans (h.k j hj h1 h2)⟩
theorem Kw.below {W1 W2 W3 : World} {gf gb : Nat} (h : Kw W1 W2 gf gb) (hb : Below W2.heap.size W2 W3) : Kw W1 W3 gf gb :=
  ⟨Nat.le_trans h.s hb.size, fun j hj h1 h2 => (hb.block j (Nat.lt_of_lt_of_le hj h.s)).trans (h.k j hj h1 h2)⟩
theorem Kw.set {W1 W2 : World} {gf gb : Nat} (h : Kw W1 W2 gf gb) (p : Addr) (hp : p.block = gf ∨ p.block = gb) (v : Value) : Kw W1 (W2.setCell p v) gf gb :=
  ⟨by simpa using h.s, fun j hj h1 h2 => (Below.heap_setCell W2 p v j (by rcases hp with e | e <;> rw [e] <;> assumption)).trans (h.k j hj h1 h2)⟩
structure Fi (w0 Ws W : World) (gf gb cb : Nat) (B : List Int) (pq : Nat) : Prop where
  c : W.heap[gf]? = some (.cells #[.slice (some ⟨gb, 0, none⟩) B.length cb, .int .i64 (pq : Int)] 47 (0, 0))
  r : kB.R 5 W w0.heap.size (fun _ => True) (.slice (some ⟨gb, 0, none⟩) B.length cb) B
  h : w0.heap.size ≤ gf
  K : Below w0.heap.size w0 W
  k : Kw Ws W gf gb
section
variable {w0 Ws W W' : World} {gf gb cb : Nat} {B : List Int} {pq : Nat}
theorem Fi.ne (h : Fi w0 Ws W gf gb cb B pq) : gf ≠ gb := fun e => by
  obtain ⟨cs, hcs⟩ := Kd.R_typed h.r gb rfl
  have := h.c
  rw [e, hcs] at this
  injection this with this
  injection this with _ this
  exact absurd this (by decide)
theorem Fi.below (h : Fi w0 Ws W gf gb cb B pq) (hb : Below W.heap.size W W') : Fi w0 Ws W' gf gb cb B pq := ⟨blk_below h.c hb, Kd.R_below h.r hb, h.h, below_step h.K hb, h.k.below hb⟩
/-- The place is moved. -/
theorem Fi.move (h : Fi w0 Ws W gf gb cb B pq) (n : Nat) : Fi w0 Ws (W.setCell ⟨gf, 1, none⟩ (.int .i64 (n : Int))) gf gb cb B n :=
  ⟨by simpa using blk_set h.c 1 (.int .i64 (n : Int)), Kd.R_set h.r h.c (by decide) 1 _, h.h, h.K.setCell (p := ⟨gf, 1, none⟩) h.h _, h.k.set ⟨gf, 1, none⟩ (.inl rfl) _⟩
end
/-- A walk behind a walk. -/
theorem Fi.then_ {w0 Ws W W' : World} {gf gb cb : Nat} {B B' : List Int} {a a' : Nat} (h : Fi w0 Ws W gf gb cb B a) (k : Fi w0 W W' gf gb cb B' a') : Fi w0 Ws W' gf gb cb B' a' := ⟨k.c, k.r, k.h, k.K, h.k.trans k.k⟩
theorem Fi.here {w0 Ws W : World} {gf gb cb : Nat} {B : List Int} {a : Nat} (h : Fi w0 Ws W gf gb cb B a) : Fi w0 W W gf gb cb B a := ⟨h.c, h.r, h.h, h.K, Kw.refl _ _ _⟩
/-- A byte is written. -/
theorem Fi.poke {w0 Ws W : World} {gf gb cb : Nat} {B : List Int} {pq : Nat} (h : Fi w0 Ws W gf gb cb B pq) (p : Nat) (y : Int) : Fi w0 Ws (W.setCell ⟨gb, p, none⟩ (.int .u8 y)) gf gb cb (B.set p y) pq := by
  have hr := (Kd.R_put h.r (p : Int) y).1
  rw [Int.toNat_natCast] at hr
  refine ⟨?_, ?_, h.h, h.K.setCell (p := ⟨gb, p, none⟩) (Kd.R_base h.r gb rfl) _, h.k.set ⟨gb, p, none⟩ (.inr rfl) _⟩
  · rw [List.length_set]
    exact (Below.heap_setCell W ⟨gb, p, none⟩ _ gf h.ne).trans h.c
  · rw [List.length_set]
    exact hr
theorem byte_cell {W : World} {gb cb : Nat} {B : List Int} {base : Nat} {ok : Nat → Prop} (h : kB.R 5 W base ok (.slice (some ⟨gb, 0, none⟩) B.length cb) B) (i : Nat) (hi : i < B.length) : W.cell? ⟨gb, i, none⟩ = some (.int .u8 (B.getD i 0)) := by
  obtain ⟨ad, e, hc⟩ := Kd.at_int (Kd.R_reads' h).2.2 (i : Int) (by omega) (by omega)
  injection e with e
  subst e
  rw [rd, Int.toNat_natCast] at hc
  by_cases h0 : i = 0
  · subst h0
    exact hc
  · simpa [Addr.add, h0] using hc
set_option maxRecDepth 100000 in
set_option maxHeartbeats 16000000 in
theorem fwalk_calls (n : Nat) : ∀ (v : Value) (g : Ge) (w0 Ws W : World) (gf gb cb : Nat) (B : List Int) (pq : Nat), IsG w0 v g → g.bulk ≤ n → n ≤ 2097152 → B.length ≤ 1048576 → pq + sizeW g ≤ B.length → Fi w0 Ws W gf gb cb B pq →
    Calls Try.prog 13 #[.pointer (some ⟨gf, 0, none⟩), v] W fun e W' => e = .returned (.tuple #[]) ∧ Fi w0 Ws W' gf gb cb (walkG g (B, pq)).1 (walkG g (B, pq)).2 := by
  induction n with
  | zero => intro v g w0 Ws W gf gb cb B pq _ h; have := g.bulk_eq; omega
  | succ n ih =>
  intro v g w0 Ws W gf gb cb B pq hv hbk hn hB hs hF
  have hu := Try.underlying28
  have huf := Try.underlying47
  have hmx : Try.prog.follows .mixedOrders = true := by kernel_rfl
  have hbq := g.bulk_eq
  have hsz : 9 ≤ sizeW g := by rw [sizeW_eq]; split <;> (try split) <;> (try split) <;> omega
  have hat : pq < B.length := by omega
  obtain ⟨A1, c1, A2, c2, A3, c3, rfl, l1, h1, l2, h2, l3, h3⟩ := hv
  have HG := Aside0.mk (And.intro l1 (And.intro h1 (And.intro l2 (And.intro h2 (And.intro l3 h3)))))
  have HS := Aside0.mk (And.intro hs (And.intro hbk hbq))
  have IH := Aside0.mk ih
  have HF := Aside0.mk hF
  obtain ⟨R, hR⟩ : ∃ R, R = walkG g (B, pq) := ⟨_, rfl⟩
  have HR := Aside0.mk hR
  rw [← hR]
  clear hR h1 h2 h3 l1 l2 l3 hs hbq hsz ih hF
  go_enter Try.func13, Try.ntmps13
  go_upto_region 1 with fail
  obtain ⟨gx, hgx⟩ : ∃ y, y = W.heap.size := ⟨_, rfl⟩
  obtain ⟨W0, hW0⟩ : ∃ y, y = W.alloc (.cells #[.int .i64 g.f0, .slice A1 g.f1.length c1, .slice A2 g.f2.length c2, .slice A3 g.f3.length c3] 28) := ⟨_, rfl⟩
  rw [← hW0, ← hgx]
  have hb0 : Below W.heap.size W W0 := by rw [hW0]; exact below_alloc (Below.refl _ _) _
  have hf0 := HF.out.below hb0
  have H0 := Aside0.mk (And.intro hf0 (show W0.heap[gx]? = some (.cells #[.int .i64 g.f0, .slice A1 g.f1.length c1, .slice A2 g.f2.length c2, .slice A3 g.f3.length c3] 28 (0, 0)) by rw [hW0, hgx]; exact World.alloc_heap_new _ _))
  have hc := byte_cell hf0.r pq hat
  obtain ⟨x, hx⟩ : ∃ x, x = B.getD pq 0 := ⟨_, rfl⟩
  rw [← hx] at hc
  have HX := Aside0.mk hx
  have z0 : W0.cell? ⟨gf, 0, none⟩ = some (.slice (some ⟨gb, 0, none⟩) B.length cb) := (blk_cell hf0.c 0).trans rfl
  have z1 : W0.cell? ⟨gf, 1, none⟩ = some (.int .i64 (pq : Int)) := (blk_cell hf0.c 1).trans rfl
  have hlt : (pq : Int) < (B.length : Int) := by omega
  have HGX := Aside0.mk (show gf ≠ gx ∧ gb ≠ gx by
    have h1 := blk_lt HF.out.c
    obtain ⟨cs, hcs⟩ := Kd.R_typed HF.out.r gb rfl
    have h2 := blk_lt hcs
    exact ⟨by omega, by omega⟩)
  clear hW0 hgx hb0 hf0 hx
  go_quiet (fail)
  have hb1 : Below W0.heap.size W0 (W0.drewN nq) := pw_below_drewN (Below.refl _ _) _
  obtain ⟨W1, hW1⟩ : ∃ y, y = W0.drewN nq := ⟨_, rfl⟩
  rw [← hW1] at hb1 ⊢
  have H1 := Aside0.mk (And.intro (H0.out.1.below hb1) (blk_below H0.out.2 hb1))
  clear hW1 hb1 hc z0 z1 H0 HF
  have z0 : W1.cell? ⟨gf, 0, none⟩ = some (.slice (some ⟨gb, 0, none⟩) B.length cb) := (blk_cell H1.out.1.c 0).trans rfl
  have z1 : W1.cell? ⟨gf, 1, none⟩ = some (.int .i64 (pq : Int)) := (blk_cell H1.out.1.c 1).trans rfl
  have y1 := blk_frozen H1.out.1.c 1
  obtain ⟨le, hle⟩ : ∃ le, le = (x == 1) := ⟨_, rfl⟩
  rw [← hle]
  have HLE := Aside0.mk hle
  clear hle
  go_upto_region 3 with fail
  have hgx := HGX.out
  obtain ⟨W2, hW2⟩ : ∃ y, y = W1.setCell ⟨gf, 1, none⟩ (.int .i64 ((pq : Int) + 5)) := ⟨_, rfl⟩
  rw [← hW2]
  have H2 := Aside0.mk (show Fi w0 Ws W2 gf gb cb B (pq + 5) ∧ W2.heap[gx]? = some (.cells #[.int .i64 g.f0, .slice A1 g.f1.length c1, .slice A2 g.f2.length c2, .slice A3 g.f3.length c3] 28 (0, 0)) by
    rw [hW2]
    have h1 := H1.out.1.move (pq + 5)
    rw [show (((pq + 5 : Nat)) : Int) = (pq : Int) + 5 from by omega] at h1
    exact ⟨h1, (Below.heap_setCell W1 ⟨gf, 1, none⟩ _ gx (fun e => hgx.1 e.symm)).trans H1.out.2⟩)
  clear hW2 z0 z1 y1 hgx H1
  have HW := Aside0.mk (walkG_eq g (B, pq))
  rw [← HR.out] at HW
  have HWS := Aside0.mk (sizeW_eq g)
  have k0 : W2.cell? ⟨gx, 0, none⟩ = some (.int .i64 g.f0) := (blk_cell H2.out.2 0).trans rfl
  have k1 : W2.cell? ⟨gx, 1, none⟩ = some (.slice A1 g.f1.length c1) := (blk_cell H2.out.2 1).trans rfl
  have z0 : W2.cell? ⟨gf, 0, none⟩ = some (.slice (some ⟨gb, 0, none⟩) B.length cb) := (blk_cell H2.out.1.c 0).trans rfl
  have z1 : W2.cell? ⟨gf, 1, none⟩ = some (.int .i64 ((pq : Int) + 5)) := (blk_cell H2.out.1.c 1).trans (by rw [show (((pq + 5 : Nat)) : Int) = (pq : Int) + 5 from by omega]; rfl)
  by_cases e1 : g.f0 = 1
  · have e1a : (g.f0 == 1) = true := beq_iff_eq.mpr e1
    by_cases e2 : g.f1.length = 0
    · have e2a : ((g.f1.length : Int) == 0) = true := beq_iff_eq.mpr (by omega)
      have e1b := Aside0.mk e1
      have e2b := Aside0.mk e2
      clear e1 e2 z0 z1
      go_wp2_with fail
      refine (put64_ok none 0 [] 9221120237041090560 le W2 (Kd.C_nil _ _) (Nat.le_refl _) (by simp)).mono ?_
      rintro e W3 ⟨u1, rfl, hu1, hb1⟩
      obtain ⟨B1, d1, rfl⟩ := Kd.R_slice hu1
      have hr1 := Kd.R_reads' hu1
      have H3 := Aside0.mk (And.intro (H2.out.1.below hb1) hr1.2)
      clear hr1 hu1 hb1 H2 k0 k1
      go_wp2_with fail
      refine (put64_ok B1 d1 (P64 [] 9221120237041090560 le) 9221120237041090560 le W3 H3.out.2.2 H3.out.2.1 (by rw [P64_len]; simp)).mono ?_
      rintro e W4 ⟨u2, rfl, hu2, hb2⟩
      rw [show P64 (P64 [] 9221120237041090560 le) 9221120237041090560 le = ptB le nanP from ptB_eq le nanP] at hu2
      obtain ⟨V, hV⟩ : ∃ V, V = ptB le nanP := ⟨_, rfl⟩
      have hVl : V.length = 16 := by rw [hV, ptB_len]
      rw [← hV] at hu2
      obtain ⟨gv, cv, rfl, hv1, -, -⟩ := Kd.R_form hu2 (by omega)
      have hgb : gb < W3.heap.size := by
        obtain ⟨cs, hcs⟩ := Kd.R_typed H3.out.1.r gb rfl
        exact blk_lt hcs
      have HV := Aside0.mk (And.intro hV hVl)
      have H4 := Aside0.mk (And.intro (H3.out.1.below hb2) (Kd.R_mono (Kd.R_bound hu2) (fun k hk => show k ≠ gb by have := hk.2.1; omega)))
      obtain ⟨N, hN⟩ : ∃ N, N = 16 := ⟨_, rfl⟩
      rw [hVl]
      have HN := Aside0.mk hN
      clear hV hVl hu2 hb2 hv1 hgb hN H3
      have hPl : pq + 5 + 16 ≤ B.length := by have := HS.out.1; rw [HWS.out, if_pos e1b.out] at this; omega
      have HPL := Aside0.mk hPl
      clear hPl
      go_wp2_with fail
      go_loopg [6] N (fun kq i wr => ∃ j : Nat, j + kq = N ∧ i = .int .i64 (j : Int) ∧ Aside0 (Fi w0 Ws wr gf gb cb (putAt B (pq + 5) (V.take j)) (pq + 5) ∧ kB.R 5 wr W3.heap.size (fun k => k ≠ gb) (.slice (some ⟨gv, 0, none⟩) V.length cv) V))
      case atStart => exact ⟨0, by omega, rfl, ⟨by rw [List.take_zero, putAt_nil]; exact H4.out.1, H4.out.2⟩⟩
      case round =>
        clear H4
        obtain ⟨j, hj, rfl, HF⟩ := hrel
        cases gk with
        | zero =>
          obtain rfl : j = 16 := by have := HN.out; omega
          have hlt : ¬ (((16 : Nat) : Int) < 16) := by omega
          have H5 := Aside0.mk (show Fi w0 Ws wr gf gb cb (putAt B (pq + 5) (ptB le nanP)) (pq + 5) by
            have h1 := HF.out.1
            rw [← HV.out.2, List.take_length, HV.out.1] at h1
            exact h1)
          have z1 : wr.cell? ⟨gf, 1, none⟩ = some (.int .i64 ((pq : Int) + 5)) := (blk_cell HF.out.1.c 1).trans (by rw [show (((pq + 5 : Nat)) : Int) = (pq : Int) + 5 from by omega]; rfl)
          have y1 := blk_frozen HF.out.1.c 1
          have hPl := HPL.out
          clear HF
          go_wp2_with fail
          refine bodyPost_end (results_none rfl _ _ _) rfl ?_
          refine ⟨rfl, ?_⟩
          rw [HW.out, if_pos e1b.out, if_pos e2b.out]
          have h9 := H5.out.move (pq + 5 + 16)
          rw [show (((pq + 5 + 16 : Nat)) : Int) = (pq : Int) + 5 + 16 from by omega] at h9
          have h8 := HLE.out
          rw [HX.out] at h8
          rw [show decide (B.getD pq 0 = 1) = le from by rw [h8]; exact Bool.eq_iff_iff.mpr (by rw [decide_eq_true_iff, beq_iff_eq])]
          exact h9
        | succ kq =>
          have hj16 : j < 16 := by have := HN.out; omega
          have hlt : (j : Int) < 16 := by omega
          have hjN := Aside0.mk hj
          clear hj
          go_upto_region 15 with fail
          have hBl : (putAt B (pq + 5) (V.take j)).length = B.length := putAt_len (by rw [List.length_take]; have := HV.out.2; have := HPL.out; omega)
          have hVl := HV.out.2
          have z0 : wr.cell? ⟨gf, 0, none⟩ = some (.slice (some ⟨gb, 0, none⟩) B.length cb) := (blk_cell HF.out.1.c 0).trans (by rw [hBl]; rfl)
          have z1 : wr.cell? ⟨gf, 1, none⟩ = some (.int .i64 ((pq : Int) + 5)) := (blk_cell HF.out.1.c 1).trans (by rw [show (((pq + 5 : Nat)) : Int) = (pq : Int) + 5 from by omega]; rfl)
          have hcv := byte_cell HF.out.2 j (by omega)
          obtain ⟨P, hP⟩ : ∃ P, P = pq + 5 + j := ⟨_, rfl⟩
          have hw1 : IntKind.i64.wrap ((pq : Int) + 5 + (j : Int)) = (P : Int) := by rw [IntKind.wrap_i64]; have := HPL.out; omega
          have hw2 : (P : Int) < (B.length : Int) := by have := HPL.out; omega
          have HP := Aside0.mk hP
          clear hP
          obtain ⟨y, hy⟩ : ∃ y, y = V.getD j 0 := ⟨_, rfl⟩
          rw [← hy] at hcv
          have HY := Aside0.mk (And.intro hy hBl)
          clear hy hVl hBl
          refine start_ (n := 16) (S := fun w' => w'.cell? ⟨gf, 0, none⟩ = some (.slice (some ⟨gb, 0, none⟩) B.length cb) ∧ w'.cell? ⟨gf, 1, none⟩ = some (.int .i64 ((pq : Int) + 5)) ∧ w'.cell? ⟨gv, j, none⟩ = some (.int .u8 y) ∧ True) (ds := [15]) #[false, false, false, false, false, false, false, false, false, false, false, false, false, false, false, false] hmx rfl rfl ⟨z0, z1, hcv, trivial⟩ (fun hHeld => ?_)
          (refine pure_ (i := 0) (N := some 72) (v := ?_) (a' := ?_) #[true, false, false, false, false, false, false, false, false, false, false, false, false, false, false, false] rfl rfl (by kernel_rfl) (fun _ _ _ h => h) (Or.inl ⟨by rfl, ?_⟩) ?_ ?_; rotate_left; (focus (intro w'_; go_simp; with_reducible rfl)); rotate_left; (focus (simp only [Act.put, List.setIfInBounds_toArray, List.set_cons_zero, List.set_cons_succ]; rfl)))
          (refine pure_ (i := 1) (N := some 73) (v := ?_) (a' := ?_) #[true, true, false, false, false, false, false, false, false, false, false, false, false, false, false, false] rfl rfl (by kernel_rfl) (fun _ _ _ h => h) (Or.inl ⟨by rfl, ?_⟩) ?_ ?_; rotate_left; (focus (intro w'_; go_simp; with_reducible rfl)); rotate_left; (focus (simp only [Act.put, List.setIfInBounds_toArray, List.set_cons_zero, List.set_cons_succ]; rfl)))
          (refine pure_ (i := 2) (N := some 74) (v := ?_) (a' := ?_) #[true, true, true, false, false, false, false, false, false, false, false, false, false, false, false, false] rfl rfl (by kernel_rfl) (fun _ _ _ h => h) (Or.inl ⟨by rfl, ?_⟩) ?_ ?_; rotate_left; (focus (intro w'_; go_simp; with_reducible rfl)); rotate_left; (focus (simp only [Act.put, List.setIfInBounds_toArray, List.set_cons_zero, List.set_cons_succ]; rfl)))
          (refine take_ (i := 3) (N := some 75) (v := ?_) (a' := ?_) #[true, true, true, true, false, false, false, false, false, false, false, false, false, false, false, false] rfl rfl (by kernel_rfl) (fun _ _ _ h => h) (Or.inl ⟨by rfl, ?_⟩) hHeld ?_ ?_; rotate_left; (focus (intro w'_ hs_; (repeat obtain ⟨_, hs_⟩ := hs_); go_simp; with_reducible rfl)); rotate_left; (focus (simp only [Act.put, List.setIfInBounds_toArray, List.set_cons_zero, List.set_cons_succ]; rfl)))
          (refine pure_ (i := 4) (N := some 76) (v := ?_) (a' := ?_) #[true, true, true, true, true, false, false, false, false, false, false, false, false, false, false, false] rfl rfl (by kernel_rfl) (fun _ _ _ h => h) (Or.inl ⟨by rfl, ?_⟩) ?_ ?_; rotate_left; (focus (intro w'_; go_simp; with_reducible rfl)); rotate_left; (focus (simp only [Act.put, List.setIfInBounds_toArray, List.set_cons_zero, List.set_cons_succ]; rfl)))
          (refine pure_ (i := 5) (N := some 77) (v := ?_) (a' := ?_) #[true, true, true, true, true, true, false, false, false, false, false, false, false, false, false, false] rfl rfl (by kernel_rfl) (fun _ _ _ h => h) (Or.inl ⟨by rfl, ?_⟩) ?_ ?_; rotate_left; (focus (intro w'_; go_simp; with_reducible rfl)); rotate_left; (focus (simp only [Act.put, List.setIfInBounds_toArray, List.set_cons_zero, List.set_cons_succ]; rfl)))
          (refine pure_ (i := 6) (N := some 78) (v := ?_) (a' := ?_) #[true, true, true, true, true, true, true, false, false, false, false, false, false, false, false, false] rfl rfl (by kernel_rfl) (fun _ _ _ h => h) (Or.inl ⟨by rfl, ?_⟩) ?_ ?_; rotate_left; (focus (intro w'_; go_simp; with_reducible rfl)); rotate_left; (focus (simp only [Act.put, List.setIfInBounds_toArray, List.set_cons_zero, List.set_cons_succ]; rfl)))
          (refine take_ (i := 7) (N := some 79) (v := ?_) (a' := ?_) #[true, true, true, true, true, true, true, true, false, false, false, false, false, false, false, false] rfl rfl (by kernel_rfl) (fun _ _ _ h => h) (Or.inl ⟨by rfl, ?_⟩) hHeld ?_ ?_; rotate_left; (focus (intro w'_ hs_; (repeat obtain ⟨_, hs_⟩ := hs_); go_simp; with_reducible rfl)); rotate_left; (focus (simp only [Act.put, List.setIfInBounds_toArray, List.set_cons_zero, List.set_cons_succ]; rfl)))
          (refine pure_ (i := 8) (N := some 80) (v := ?_) (a' := ?_) #[true, true, true, true, true, true, true, true, true, false, false, false, false, false, false, false] rfl rfl (by kernel_rfl) (fun _ _ _ h => h) (Or.inl ⟨by rfl, ?_⟩) ?_ ?_; rotate_left; (focus (intro w'_; go_simp; with_reducible rfl)); rotate_left; (focus (simp only [Act.put, List.setIfInBounds_toArray, List.set_cons_zero, List.set_cons_succ]; rfl)))
          (refine pure_ (i := 9) (N := some 81) (v := ?_) (a' := ?_) #[true, true, true, true, true, true, true, true, true, true, false, false, false, false, false, false] rfl rfl (by kernel_rfl) (fun _ _ _ h => h) (Or.inl ⟨by rfl, ?_⟩) ?_ ?_; rotate_left; (focus (intro w'_; go_simp; with_reducible rfl)); rotate_left; (focus (simp only [Act.put, List.setIfInBounds_toArray, List.set_cons_zero, List.set_cons_succ]; rfl)))
          (refine pure_ (i := 10) (N := some 82) (v := ?_) (a' := ?_) #[true, true, true, true, true, true, true, true, true, true, true, false, false, false, false, false] rfl rfl (by kernel_rfl) (fun _ _ _ h => h) (Or.inl ⟨by rfl, ?_⟩) ?_ ?_; rotate_left; (focus (intro w'_; go_simp; with_reducible rfl)); rotate_left; (focus (simp only [Act.put, List.setIfInBounds_toArray, List.set_cons_zero, List.set_cons_succ]; rfl)))
          (refine pure_ (i := 11) (N := some 83) (v := ?_) (a' := ?_) #[true, true, true, true, true, true, true, true, true, true, true, true, false, false, false, false] rfl rfl (by kernel_rfl) (fun _ _ _ h => h) (Or.inl ⟨by rfl, ?_⟩) ?_ ?_; rotate_left; (focus (intro w'_; go_simp; with_reducible rfl)); rotate_left; (focus (simp only [Act.put, List.setIfInBounds_toArray, List.set_cons_zero, List.set_cons_succ]; rfl)))
          (refine pure_ (i := 12) (N := some 84) (v := ?_) (a' := ?_) #[true, true, true, true, true, true, true, true, true, true, true, true, true, false, false, false] rfl rfl (by kernel_rfl) (fun _ _ _ h => h) (Or.inl ⟨by rfl, ?_⟩) ?_ ?_; rotate_left; (focus (intro w'_; go_simp; with_reducible rfl)); rotate_left; (focus (simp only [Act.put, List.setIfInBounds_toArray, List.set_cons_zero, List.set_cons_succ]; rfl)))
          (refine take_ (i := 13) (N := some 85) (v := ?_) (a' := ?_) #[true, true, true, true, true, true, true, true, true, true, true, true, true, true, false, false] rfl rfl (by kernel_rfl) (fun _ _ _ h => h) (Or.inl ⟨by rfl, ?_⟩) hHeld ?_ ?_; rotate_left; (focus (intro w'_ hs_; (repeat obtain ⟨_, hs_⟩ := hs_); go_simp; with_reducible rfl)); rotate_left; (focus (simp only [Act.put, List.setIfInBounds_toArray, List.set_cons_zero, List.set_cons_succ]; rfl)))
          (refine pure_ (i := 14) (N := some 86) (v := ?_) (a' := ?_) #[true, true, true, true, true, true, true, true, true, true, true, true, true, true, true, false] rfl rfl (by kernel_rfl) (fun _ _ _ h => h) (Or.inl ⟨by rfl, ?_⟩) ?_ ?_; rotate_left; (focus (intro w'_; go_simp; with_reducible rfl)); rotate_left; (focus (simp only [Act.put, List.setIfInBounds_toArray, List.set_cons_zero, List.set_cons_succ]; rfl)))
          refine last_ (i := 15) (N := none) #[true, true, true, true, true, true, true, true, true, true, true, true, true, true, true, true] rfl rfl (by kernel_rfl) (by decide) (fun K hK => ?_)
          have hbd : Below wr.heap.size wr wr.drew := below_drew (Below.refl _ _)
          have H6 := Aside0.mk (And.intro (HF.out.1.below hbd) (Kd.R_below HF.out.2 hbd))
          clear hbd hHeld z0 z1 hcv HF
          generalize wr.drew = Wd at *
          have hcb := Kd.R_cell 0 H6.out.1.r (P : Int) (by omega) (by rw [HY.out.2]; omega)
          have z2 : Wd.cell? ⟨gb, P, none⟩ = some (.int .u8 (rdOf 0 (putAt B (pq + 5) (V.take j)) (P : Int))) := hcb.1
          have y2 : Wd.frozen? ⟨gb, P, none⟩ = false := hcb.2
          clear hcb
          refine skip_ (w1 := ?_) (by rfl) rfl ?_ ?_
          rotate_left
          · go_simp
            rfl
          refine hK.out _ _ ?_
          clear hK K
          refine done_ (by kernel_rfl) ?_
          obtain ⟨W5, hW5⟩ : ∃ z, z = Wd.setCell ⟨gb, P, none⟩ (.int .u8 y) := ⟨_, rfl⟩
          rw [← hW5]
          have H5 := Aside0.mk (show Fi w0 Ws W5 gf gb cb (putAt B (pq + 5) (V.take (j + 1))) (pq + 5) ∧ kB.R 5 W5 W3.heap.size (fun k => k ≠ gb) (.slice (some ⟨gv, 0, none⟩) V.length cv) V by
            rw [hW5]
            have h1 := H6.out.1.poke P y
            rw [HP.out, HY.out.1, putAt_snoc (by have := HV.out.2; omega) (by have := HV.out.2; have := HPL.out; omega)] at h1
            rw [HP.out, HY.out.1]
            exact ⟨h1, Kd.R_far (p := ⟨gb, pq + 5 + j, none⟩) H6.out.2 (fun k hk => hk) _⟩)
          clear hW5 z2 y2 hw1 hw2 H6
          go_wp2_with fail
          go_roundg kq
          case measure => omega
          case rel => exact ⟨j + 1, by have := hjN.out; omega, by go_num, H5⟩
    · have e2a : ((g.f1.length : Int) == 0) = false := beq_eq_false_iff_ne.mpr (by omega)
      have y1 := blk_frozen H2.out.1.c 1
      have e1b := Aside0.mk e1
      have e2b := Aside0.mk e2
      clear e1 e2
      go_wp2_with fail
      refine bodyPost_end (results_none rfl _ _ _) rfl ?_
      refine ⟨rfl, ?_⟩
      rw [HW.out, if_pos e1b.out, if_neg e2b.out]
      have h9 := H2.out.1.move (pq + 5 + 16)
      rw [show (((pq + 5 + 16 : Nat)) : Int) = (pq : Int) + 5 + 16 from by omega] at h9
      exact h9
  have e1a : (g.f0 == 1) = false := beq_eq_false_iff_ne.mpr e1
  by_cases e2 : g.f0 = 2
  · have e2a : (g.f0 == 2) = true := beq_iff_eq.mpr e2
    have e1b := Aside0.mk e1
    have e2b := Aside0.mk e2
    clear e1 e2
    go_upto_region 18 with fail
    have hln : pq + 9 + 16 * g.f1.length ≤ B.length := by have := HS.out.1; rw [HWS.out, if_neg e1b.out, if_pos e2b.out] at this; omega
    have hw1 : IntKind.i64.wrap ((pq : Int) + 5 + 4) = (pq : Int) + 5 + 4 := by rw [IntKind.wrap_i64]; omega
    have hw2 : IntKind.i64.wrap (16 * (g.f1.length : Int)) = 16 * (g.f1.length : Int) := by rw [IntKind.wrap_i64]; omega
    have hw3 : IntKind.i64.wrap ((pq : Int) + 5 + 4 + 16 * (g.f1.length : Int)) = (pq : Int) + 5 + 4 + 16 * (g.f1.length : Int) := by rw [IntKind.wrap_i64]; omega
    refine start_ (n := 14) (S := fun w' => w'.cell? ⟨gf, 1, none⟩ = some (.int .i64 ((pq : Int) + 5)) ∧ w'.cell? ⟨gx, 1, none⟩ = some (.slice A1 g.f1.length c1) ∧ True) (ds := [13]) #[false, false, false, false, false, false, false, false, false, false, false, false, false, false] hmx rfl rfl ⟨z1, k1, trivial⟩ (fun hHeld => ?_)
    (refine pure_ (i := 0) (N := some 97) (v := ?_) (a' := ?_) #[true, false, false, false, false, false, false, false, false, false, false, false, false, false] rfl rfl (by kernel_rfl) (fun _ _ _ h => h) (Or.inl ⟨by rfl, ?_⟩) ?_ ?_; rotate_left; (focus (intro w'_; go_simp; with_reducible rfl)); rotate_left; (focus (simp only [Act.put, List.setIfInBounds_toArray, List.set_cons_zero, List.set_cons_succ]; rfl)))
    (refine pure_ (i := 1) (N := some 98) (v := ?_) (a' := ?_) #[true, true, false, false, false, false, false, false, false, false, false, false, false, false] rfl rfl (by kernel_rfl) (fun _ _ _ h => h) (Or.inl ⟨by rfl, ?_⟩) ?_ ?_; rotate_left; (focus (intro w'_; go_simp; with_reducible rfl)); rotate_left; (focus (simp only [Act.put, List.setIfInBounds_toArray, List.set_cons_zero, List.set_cons_succ]; rfl)))
    (refine pure_ (i := 2) (N := some 99) (v := ?_) (a' := ?_) #[true, true, true, false, false, false, false, false, false, false, false, false, false, false] rfl rfl (by kernel_rfl) (fun _ _ _ h => h) (Or.inl ⟨by rfl, ?_⟩) ?_ ?_; rotate_left; (focus (intro w'_; go_simp; with_reducible rfl)); rotate_left; (focus (simp only [Act.put, List.setIfInBounds_toArray, List.set_cons_zero, List.set_cons_succ]; rfl)))
    (refine pure_ (i := 3) (N := some 100) (v := ?_) (a' := ?_) #[true, true, true, true, false, false, false, false, false, false, false, false, false, false] rfl rfl (by kernel_rfl) (fun _ _ _ h => h) (Or.inl ⟨by rfl, ?_⟩) ?_ ?_; rotate_left; (focus (intro w'_; go_simp; with_reducible rfl)); rotate_left; (focus (simp only [Act.put, List.setIfInBounds_toArray, List.set_cons_zero, List.set_cons_succ]; rfl)))
    (refine take_ (i := 4) (N := some 101) (v := ?_) (a' := ?_) #[true, true, true, true, true, false, false, false, false, false, false, false, false, false] rfl rfl (by kernel_rfl) (fun _ _ _ h => h) (Or.inl ⟨by rfl, ?_⟩) hHeld ?_ ?_; rotate_left; (focus (intro w'_ hs_; (repeat obtain ⟨_, hs_⟩ := hs_); go_simp; with_reducible rfl)); rotate_left; (focus (simp only [Act.put, List.setIfInBounds_toArray, List.set_cons_zero, List.set_cons_succ]; rfl)))
    (refine pure_ (i := 5) (N := some 102) (v := ?_) (a' := ?_) #[true, true, true, true, true, true, false, false, false, false, false, false, false, false] rfl rfl (by kernel_rfl) (fun _ _ _ h => h) (Or.inl ⟨by rfl, ?_⟩) ?_ ?_; rotate_left; (focus (intro w'_; go_simp; with_reducible rfl)); rotate_left; (focus (simp only [Act.put, List.setIfInBounds_toArray, List.set_cons_zero, List.set_cons_succ]; rfl)))
    (refine pure_ (i := 6) (N := some 103) (v := ?_) (a' := ?_) #[true, true, true, true, true, true, true, false, false, false, false, false, false, false] rfl rfl (by kernel_rfl) (fun _ _ _ h => h) (Or.inl ⟨by rfl, ?_⟩) ?_ ?_; rotate_left; (focus (intro w'_; go_simp; with_reducible rfl)); rotate_left; (focus (simp only [Act.put, List.setIfInBounds_toArray, List.set_cons_zero, List.set_cons_succ]; rfl)))
    (refine take_ (i := 7) (N := some 104) (v := ?_) (a' := ?_) #[true, true, true, true, true, true, true, true, false, false, false, false, false, false] rfl rfl (by kernel_rfl) (fun _ _ _ h => h) (Or.inl ⟨by rfl, ?_⟩) hHeld ?_ ?_; rotate_left; (focus (intro w'_ hs_; (repeat obtain ⟨_, hs_⟩ := hs_); go_simp; with_reducible rfl)); rotate_left; (focus (simp only [Act.put, List.setIfInBounds_toArray, List.set_cons_zero, List.set_cons_succ]; rfl)))
    (refine pure_ (i := 8) (N := some 105) (v := ?_) (a' := ?_) #[true, true, true, true, true, true, true, true, true, false, false, false, false, false] rfl rfl (by kernel_rfl) (fun _ _ _ h => h) (Or.inl ⟨by rfl, ?_⟩) ?_ ?_; rotate_left; (focus (intro w'_; go_simp; with_reducible rfl)); rotate_left; (focus (simp only [Act.put, List.setIfInBounds_toArray, List.set_cons_zero, List.set_cons_succ]; rfl)))
    (refine pure_ (i := 9) (N := some 106) (v := ?_) (a' := ?_) #[true, true, true, true, true, true, true, true, true, true, false, false, false, false] rfl rfl (by kernel_rfl) (fun _ _ _ h => h) (Or.inl ⟨by rfl, ?_⟩) ?_ ?_; rotate_left; (focus (intro w'_; go_simp; with_reducible rfl)); rotate_left; (focus (simp only [Act.put, List.setIfInBounds_toArray, List.set_cons_zero, List.set_cons_succ]; rfl)))
    (refine pure_ (i := 10) (N := some 107) (v := ?_) (a' := ?_) #[true, true, true, true, true, true, true, true, true, true, true, false, false, false] rfl rfl (by kernel_rfl) (fun _ _ _ h => h) (Or.inl ⟨by rfl, ?_⟩) ?_ ?_; rotate_left; (focus (intro w'_; go_simp; with_reducible rfl)); rotate_left; (focus (simp only [Act.put, List.setIfInBounds_toArray, List.set_cons_zero, List.set_cons_succ]; rfl)))
    (refine pure_ (i := 11) (N := some 108) (v := ?_) (a' := ?_) #[true, true, true, true, true, true, true, true, true, true, true, true, false, false] rfl rfl (by kernel_rfl) (fun _ _ _ h => h) (Or.inl ⟨by rfl, ?_⟩) ?_ ?_; rotate_left; (focus (intro w'_; go_simp; with_reducible rfl)); rotate_left; (focus (simp only [Act.put, List.setIfInBounds_toArray, List.set_cons_zero, List.set_cons_succ]; rfl)))
    (refine pure_ (i := 12) (N := some 109) (v := ?_) (a' := ?_) #[true, true, true, true, true, true, true, true, true, true, true, true, true, false] rfl rfl (by kernel_rfl) (fun _ _ _ h => h) (Or.inl ⟨by rfl, ?_⟩) ?_ ?_; rotate_left; (focus (intro w'_; go_simp; with_reducible rfl)); rotate_left; (focus (simp only [Act.put, List.setIfInBounds_toArray, List.set_cons_zero, List.set_cons_succ]; rfl)))
    refine last_ (i := 13) (N := none) #[true, true, true, true, true, true, true, true, true, true, true, true, true, true] rfl rfl (by kernel_rfl) (by decide) (fun K hK => ?_)
    have hbd : Below W2.heap.size W2 W2.drew := below_drew (Below.refl _ _)
    have H3 := Aside0.mk (H2.out.1.below hbd)
    clear hbd hHeld z0 z1 k0 k1 H2
    generalize W2.drew = Wd at *
    have z1 : Wd.cell? ⟨gf, 1, none⟩ = some (.int .i64 ((pq : Int) + 5)) := (blk_cell H3.out.c 1).trans (by rw [show (((pq + 5 : Nat)) : Int) = (pq : Int) + 5 from by omega]; rfl)
    have y1 := blk_frozen H3.out.c 1
    refine skip_ (w1 := ?_) (by rfl) rfl ?_ ?_
    rotate_left
    · go_simp
      rfl
    refine hK.out _ _ ?_
    clear hK K
    refine done_ (by kernel_rfl) ?_
    have h9 := H3.out.move (pq + 5 + (4 + 16 * g.f1.length))
    rw [show (((pq + 5 + (4 + 16 * g.f1.length) : Nat)) : Int) = (pq : Int) + 5 + 4 + 16 * (g.f1.length : Int) from by omega] at h9
    have H9 := Aside0.mk h9
    clear h9 z1 y1 hw1 hw2 hw3 H3
    go_wp2_with fail
    refine bodyPost_end (results_none rfl _ _ _) rfl ?_
    refine ⟨rfl, ?_⟩
    rw [HW.out, if_neg e1b.out, if_pos e2b.out]
    exact H9.out
  have e2a : (g.f0 == 2) = false := beq_eq_false_iff_ne.mpr e2
  have y1 := blk_frozen H2.out.1.c 1
  by_cases e3 : g.f0 = 3
  · have e3a : (g.f0 == 3) = true := beq_iff_eq.mpr e3
    have eb := Aside0.mk (And.intro e1 (And.intro e2 e3))
    clear e1 e2 e3
    go_upto_region 21 with fail
    obtain ⟨W3, hW3⟩ : ∃ y, y = W2.setCell ⟨gf, 1, none⟩ (.int .i64 ((pq : Int) + 5 + 4)) := ⟨_, rfl⟩
    rw [← hW3]
    have H3 := Aside0.mk (show Fi w0 Ws W3 gf gb cb B (pq + 9) ∧ W3.heap[gx]? = some (.cells #[.int .i64 g.f0, .slice A1 g.f1.length c1, .slice A2 g.f2.length c2, .slice A3 g.f3.length c3] 28 (0, 0)) by
      rw [hW3]
      have h1 := H2.out.1.move (pq + 9)
      rw [show (((pq + 9 : Nat)) : Int) = (pq : Int) + 5 + 4 from by omega] at h1
      exact ⟨h1, (Below.heap_setCell W2 ⟨gf, 1, none⟩ _ gx (fun e => HGX.out.1 e.symm)).trans H2.out.2⟩)
    clear hW3 z0 z1 y1 k0 k1 H2
    go_wp2_with fail
    go_loopg [7] g.f2.length (fun kq i wr => ∃ j : Nat, j + kq = g.f2.length ∧ i = .int .i64 (j : Int) ∧ Aside0 (Fi w0 Ws wr gf gb cb B (pq + 9 + (4 * j + 16 * upTo g.f2 j)) ∧ wr.heap[gx]? = some (.cells #[.int .i64 g.f0, .slice A1 g.f1.length c1, .slice A2 g.f2.length c2, .slice A3 g.f3.length c3] 28 (0, 0))))
    case atStart => exact ⟨0, by omega, rfl, H3⟩
    case round =>
      clear H3
      obtain ⟨j, hj, rfl, HF⟩ := hrel
      have k2 : wr.cell? ⟨gx, 2, none⟩ = some (.slice A2 g.f2.length c2) := (blk_cell HF.out.2 2).trans rfl
      cases gk with
      | zero =>
        have hlt : ¬ ((j : Int) < (g.f2.length : Int)) := by omega
        have hjj : j = g.f2.length := by omega
        have HJ := Aside0.mk hjj
        clear hjj
        go_wp2_with fail
        refine bodyPost_end (results_none rfl _ _ _) rfl ?_
        refine ⟨rfl, ?_⟩
        rw [HW.out, if_neg eb.out.1, if_neg eb.out.2.1, if_pos eb.out.2.2]
        have h9 := HF.out.1
        rw [HJ.out, upTo_all] at h9
        rw [show pq + 5 + (4 + (4 * g.f2.length + 16 * g.f2.flatten.length)) = pq + 9 + (4 * g.f2.length + 16 * g.f2.flatten.length) from by omega]
        exact h9
      | succ kq =>
        have hlt : (j : Int) < (g.f2.length : Int) := by omega
        go_upto_region 24 with fail
        have hjl : j < g.f2.length := by omega
        obtain ⟨ad2, A0, c0, rfl, hx, hl0, hc0⟩ := at_L2 HG.out.2.2.2.1 (j : Int) (by omega) hlt
        rw [rd_L2_at _ _ hjl, Int.toNat_natCast] at hx
        have hx2 := (HF.out.1.K.cell (World.block_lt_of_cell? w0 _ hx)).trans hx
        have HE := Aside0.mk (upTo_succ g.f2 j hjl)
        obtain ⟨rl, hrl⟩ : ∃ rl, rl = (g.f2[j]).length := ⟨_, rfl⟩
        rw [← hrl] at hx2 HE
        obtain ⟨P, hP⟩ : ∃ P, P = pq + 9 + (4 * j + 16 * upTo g.f2 j) := ⟨_, rfl⟩
        rw [← hP] at HF
        have hPl : P + 4 + 16 * rl ≤ B.length := by
          have h1 := HS.out.1
          rw [HWS.out, if_neg eb.out.1, if_neg eb.out.2.1, if_pos eb.out.2.2] at h1
          have h2 := upTo_le g.f2 (j + 1)
          rw [HE.out] at h2
          omega
        have hjb : j < 1048576 := by omega
        have HPP := Aside0.mk (And.intro hP (And.intro HE.out hj))
        have hw1 : IntKind.i64.wrap ((P : Int) + 4) = (P : Int) + 4 := by rw [IntKind.wrap_i64]; omega
        have hw2 : IntKind.i64.wrap (16 * (rl : Int)) = 16 * (rl : Int) := by rw [IntKind.wrap_i64]; omega
        have hw3 : IntKind.i64.wrap ((P : Int) + 4 + 16 * (rl : Int)) = (P : Int) + 4 + 16 * (rl : Int) := by rw [IntKind.wrap_i64]; omega
        have z1 : wr.cell? ⟨gf, 1, none⟩ = some (.int .i64 (P : Int)) := (blk_cell HF.out.1.c 1).trans rfl
        clear hx hl0 hc0 hP hj hrl
        refine start_ (n := 17) (S := fun w' => w'.cell? ⟨gf, 1, none⟩ = some (.int .i64 (P : Int)) ∧ w'.cell? ⟨gx, 2, none⟩ = some (.slice (some ad2) g.f2.length c2) ∧ w'.cell? (ad2.add j) = some (.slice A0 rl c0) ∧ True) (ds := [16]) #[false, false, false, false, false, false, false, false, false, false, false, false, false, false, false, false, false] hmx rfl rfl ⟨z1, k2, by simpa using hx2, trivial⟩ (fun hHeld => ?_)
        (refine pure_ (i := 0) (N := some 127) (v := ?_) (a' := ?_) #[true, false, false, false, false, false, false, false, false, false, false, false, false, false, false, false, false] rfl rfl (by kernel_rfl) (fun _ _ _ h => h) (Or.inl ⟨by rfl, ?_⟩) ?_ ?_; rotate_left; (focus (intro w'_; go_simp; with_reducible rfl)); rotate_left; (focus (simp only [Act.put, List.setIfInBounds_toArray, List.set_cons_zero, List.set_cons_succ]; rfl)))
        (refine pure_ (i := 1) (N := some 128) (v := ?_) (a' := ?_) #[true, true, false, false, false, false, false, false, false, false, false, false, false, false, false, false, false] rfl rfl (by kernel_rfl) (fun _ _ _ h => h) (Or.inl ⟨by rfl, ?_⟩) ?_ ?_; rotate_left; (focus (intro w'_; go_simp; with_reducible rfl)); rotate_left; (focus (simp only [Act.put, List.setIfInBounds_toArray, List.set_cons_zero, List.set_cons_succ]; rfl)))
        (refine pure_ (i := 2) (N := some 129) (v := ?_) (a' := ?_) #[true, true, true, false, false, false, false, false, false, false, false, false, false, false, false, false, false] rfl rfl (by kernel_rfl) (fun _ _ _ h => h) (Or.inl ⟨by rfl, ?_⟩) ?_ ?_; rotate_left; (focus (intro w'_; go_simp; with_reducible rfl)); rotate_left; (focus (simp only [Act.put, List.setIfInBounds_toArray, List.set_cons_zero, List.set_cons_succ]; rfl)))
        (refine pure_ (i := 3) (N := some 130) (v := ?_) (a' := ?_) #[true, true, true, true, false, false, false, false, false, false, false, false, false, false, false, false, false] rfl rfl (by kernel_rfl) (fun _ _ _ h => h) (Or.inl ⟨by rfl, ?_⟩) ?_ ?_; rotate_left; (focus (intro w'_; go_simp; with_reducible rfl)); rotate_left; (focus (simp only [Act.put, List.setIfInBounds_toArray, List.set_cons_zero, List.set_cons_succ]; rfl)))
        (refine take_ (i := 4) (N := some 131) (v := ?_) (a' := ?_) #[true, true, true, true, true, false, false, false, false, false, false, false, false, false, false, false, false] rfl rfl (by kernel_rfl) (fun _ _ _ h => h) (Or.inl ⟨by rfl, ?_⟩) hHeld ?_ ?_; rotate_left; (focus (intro w'_ hs_; (repeat obtain ⟨_, hs_⟩ := hs_); go_simp; with_reducible rfl)); rotate_left; (focus (simp only [Act.put, List.setIfInBounds_toArray, List.set_cons_zero, List.set_cons_succ]; rfl)))
        (refine pure_ (i := 5) (N := some 132) (v := ?_) (a' := ?_) #[true, true, true, true, true, true, false, false, false, false, false, false, false, false, false, false, false] rfl rfl (by kernel_rfl) (fun _ _ _ h => h) (Or.inl ⟨by rfl, ?_⟩) ?_ ?_; rotate_left; (focus (intro w'_; go_simp; with_reducible rfl)); rotate_left; (focus (simp only [Act.put, List.setIfInBounds_toArray, List.set_cons_zero, List.set_cons_succ]; rfl)))
        (refine pure_ (i := 6) (N := some 133) (v := ?_) (a' := ?_) #[true, true, true, true, true, true, true, false, false, false, false, false, false, false, false, false, false] rfl rfl (by kernel_rfl) (fun _ _ _ h => h) (Or.inl ⟨by rfl, ?_⟩) ?_ ?_; rotate_left; (focus (intro w'_; go_simp; with_reducible rfl)); rotate_left; (focus (simp only [Act.put, List.setIfInBounds_toArray, List.set_cons_zero, List.set_cons_succ]; rfl)))
        (refine take_ (i := 7) (N := some 134) (v := ?_) (a' := ?_) #[true, true, true, true, true, true, true, true, false, false, false, false, false, false, false, false, false] rfl rfl (by kernel_rfl) (fun _ _ _ h => h) (Or.inl ⟨by rfl, ?_⟩) hHeld ?_ ?_; rotate_left; (focus (intro w'_ hs_; (repeat obtain ⟨_, hs_⟩ := hs_); go_simp; with_reducible rfl)); rotate_left; (focus (simp only [Act.put, List.setIfInBounds_toArray, List.set_cons_zero, List.set_cons_succ]; rfl)))
        (refine pure_ (i := 8) (N := some 135) (v := ?_) (a' := ?_) #[true, true, true, true, true, true, true, true, true, false, false, false, false, false, false, false, false] rfl rfl (by kernel_rfl) (fun _ _ _ h => h) (Or.inl ⟨by rfl, ?_⟩) ?_ ?_; rotate_left; (focus (intro w'_; go_simp; with_reducible rfl)); rotate_left; (focus (simp only [Act.put, List.setIfInBounds_toArray, List.set_cons_zero, List.set_cons_succ]; rfl)))
        (refine pure_ (i := 9) (N := some 136) (v := ?_) (a' := ?_) #[true, true, true, true, true, true, true, true, true, true, false, false, false, false, false, false, false] rfl rfl (by kernel_rfl) (fun _ _ _ h => h) (Or.inl ⟨by rfl, ?_⟩) ?_ ?_; rotate_left; (focus (intro w'_; go_simp; with_reducible rfl)); rotate_left; (focus (simp only [Act.put, List.setIfInBounds_toArray, List.set_cons_zero, List.set_cons_succ]; rfl)))
        (refine take_ (i := 10) (N := some 137) (v := ?_) (a' := ?_) #[true, true, true, true, true, true, true, true, true, true, true, false, false, false, false, false, false] rfl rfl (by kernel_rfl) (fun _ _ _ h => h) (Or.inl ⟨by rfl, ?_⟩) hHeld ?_ ?_; rotate_left; (focus (intro w'_ hs_; (repeat obtain ⟨_, hs_⟩ := hs_); go_simp; with_reducible rfl)); rotate_left; (focus (simp only [Act.put, List.setIfInBounds_toArray, List.set_cons_zero, List.set_cons_succ]; rfl)))
        (refine pure_ (i := 11) (N := some 138) (v := ?_) (a' := ?_) #[true, true, true, true, true, true, true, true, true, true, true, true, false, false, false, false, false] rfl rfl (by kernel_rfl) (fun _ _ _ h => h) (Or.inl ⟨by rfl, ?_⟩) ?_ ?_; rotate_left; (focus (intro w'_; go_simp; with_reducible rfl)); rotate_left; (focus (simp only [Act.put, List.setIfInBounds_toArray, List.set_cons_zero, List.set_cons_succ]; rfl)))
        (refine pure_ (i := 12) (N := some 139) (v := ?_) (a' := ?_) #[true, true, true, true, true, true, true, true, true, true, true, true, true, false, false, false, false] rfl rfl (by kernel_rfl) (fun _ _ _ h => h) (Or.inl ⟨by rfl, ?_⟩) ?_ ?_; rotate_left; (focus (intro w'_; go_simp; with_reducible rfl)); rotate_left; (focus (simp only [Act.put, List.setIfInBounds_toArray, List.set_cons_zero, List.set_cons_succ]; rfl)))
        (refine pure_ (i := 13) (N := some 140) (v := ?_) (a' := ?_) #[true, true, true, true, true, true, true, true, true, true, true, true, true, true, false, false, false] rfl rfl (by kernel_rfl) (fun _ _ _ h => h) (Or.inl ⟨by rfl, ?_⟩) ?_ ?_; rotate_left; (focus (intro w'_; go_simp; with_reducible rfl)); rotate_left; (focus (simp only [Act.put, List.setIfInBounds_toArray, List.set_cons_zero, List.set_cons_succ]; rfl)))
        (refine pure_ (i := 14) (N := some 141) (v := ?_) (a' := ?_) #[true, true, true, true, true, true, true, true, true, true, true, true, true, true, true, false, false] rfl rfl (by kernel_rfl) (fun _ _ _ h => h) (Or.inl ⟨by rfl, ?_⟩) ?_ ?_; rotate_left; (focus (intro w'_; go_simp; with_reducible rfl)); rotate_left; (focus (simp only [Act.put, List.setIfInBounds_toArray, List.set_cons_zero, List.set_cons_succ]; rfl)))
        (refine pure_ (i := 15) (N := some 142) (v := ?_) (a' := ?_) #[true, true, true, true, true, true, true, true, true, true, true, true, true, true, true, true, false] rfl rfl (by kernel_rfl) (fun _ _ _ h => h) (Or.inl ⟨by rfl, ?_⟩) ?_ ?_; rotate_left; (focus (intro w'_; go_simp; with_reducible rfl)); rotate_left; (focus (simp only [Act.put, List.setIfInBounds_toArray, List.set_cons_zero, List.set_cons_succ]; rfl)))
        refine last_ (i := 16) (N := none) #[true, true, true, true, true, true, true, true, true, true, true, true, true, true, true, true, true] rfl rfl (by kernel_rfl) (by decide) (fun K hK => ?_)
        have hbd : Below wr.heap.size wr wr.drew := below_drew (Below.refl _ _)
        have H4 := Aside0.mk (And.intro (HF.out.1.below hbd) (blk_below HF.out.2 hbd))
        clear hbd hHeld z1 k2 hx2 HF
        generalize wr.drew = Wd at *
        have z1 : Wd.cell? ⟨gf, 1, none⟩ = some (.int .i64 (P : Int)) := (blk_cell H4.out.1.c 1).trans rfl
        have y1 := blk_frozen H4.out.1.c 1
        refine skip_ (w1 := ?_) (by rfl) rfl ?_ ?_
        rotate_left
        · go_simp
          rfl
        refine hK.out _ _ ?_
        clear hK K
        refine done_ (by kernel_rfl) ?_
        obtain ⟨W5, hW5⟩ : ∃ y, y = Wd.setCell ⟨gf, 1, none⟩ (.int .i64 ((P : Int) + 4 + 16 * (rl : Int))) := ⟨_, rfl⟩
        rw [← hW5]
        have H5 := Aside0.mk (show Fi w0 Ws W5 gf gb cb B (pq + 9 + (4 * (j + 1) + 16 * upTo g.f2 (j + 1))) ∧ W5.heap[gx]? = some (.cells #[.int .i64 g.f0, .slice A1 g.f1.length c1, .slice (some ad2) g.f2.length c2, .slice A3 g.f3.length c3] 28 (0, 0)) by
          rw [hW5]
          have h1 := H4.out.1.move (pq + 9 + (4 * (j + 1) + 16 * upTo g.f2 (j + 1)))
          have h2 := HPP.out.2.1
          have h3 := HPP.out.1
          rw [show (((pq + 9 + (4 * (j + 1) + 16 * upTo g.f2 (j + 1)) : Nat)) : Int) = (P : Int) + 4 + 16 * (rl : Int) from by omega] at h1
          exact ⟨h1, (Below.heap_setCell Wd ⟨gf, 1, none⟩ _ gx (fun e => HGX.out.1 e.symm)).trans H4.out.2⟩)
        clear hW5 z1 y1 hw1 hw2 hw3 H4
        go_wp2_with fail
        go_roundg kq
        case measure => omega
        case rel => exact ⟨j + 1, by have := HPP.out.2.2; omega, by go_num, H5⟩
  have e3a : (g.f0 == 3) = false := beq_eq_false_iff_ne.mpr e3
  have eb := Aside0.mk (And.intro e1 (And.intro e2 e3))
  clear e1 e2 e3
  go_upto_region 5 with fail
  obtain ⟨W3, hW3⟩ : ∃ y, y = W2.setCell ⟨gf, 1, none⟩ (.int .i64 ((pq : Int) + 5 + 4)) := ⟨_, rfl⟩
  rw [← hW3]
  have H3 := Aside0.mk (show Fi w0 Ws W3 gf gb cb B (pq + 9) ∧ W3.heap[gx]? = some (.cells #[.int .i64 g.f0, .slice A1 g.f1.length c1, .slice A2 g.f2.length c2, .slice A3 g.f3.length c3] 28 (0, 0)) by
    rw [hW3]
    have h1 := H2.out.1.move (pq + 9)
    rw [show (((pq + 9 : Nat)) : Int) = (pq : Int) + 5 + 4 from by omega] at h1
    exact ⟨h1, (Below.heap_setCell W2 ⟨gf, 1, none⟩ _ gx (fun e => HGX.out.1 e.symm)).trans H2.out.2⟩)
  clear hW3 z0 z1 y1 k0 k1 H2
  go_wp2_with fail
  go_loopg [8] g.f3.length (fun kq i wr => ∃ j : Nat, j + kq = g.f3.length ∧ i = .int .i64 (j : Int) ∧ Aside0 (Fi w0 Ws wr gf gb cb (walkL (g.f3.take j) (B, pq + 9)).1 (walkL (g.f3.take j) (B, pq + 9)).2 ∧ wr.heap[gx]? = some (.cells #[.int .i64 g.f0, .slice A1 g.f1.length c1, .slice A2 g.f2.length c2, .slice A3 g.f3.length c3] 28 (0, 0))))
  case atStart => exact ⟨0, by omega, rfl, H3⟩
  case round =>
    clear H3
    obtain ⟨j, hj, rfl, HF⟩ := hrel
    have k3 : wr.cell? ⟨gx, 3, none⟩ = some (.slice A3 g.f3.length c3) := (blk_cell HF.out.2 3).trans rfl
    cases gk with
    | zero =>
      have hlt : ¬ ((j : Int) < (g.f3.length : Int)) := by omega
      have HJ := Aside0.mk (show j = g.f3.length by omega)
      go_wp2_with fail
      refine bodyPost_end (results_none rfl _ _ _) rfl ?_
      refine ⟨rfl, ?_⟩
      rw [HW.out, if_neg eb.out.1, if_neg eb.out.2.1, if_neg eb.out.2.2]
      have h9 := HF.out.1
      rw [HJ.out, List.take_length] at h9
      exact h9
    | succ kq =>
      have hlt : (j : Int) < (g.f3.length : Int) := by omega
      go_upto_region 8 with fail
      have hil : j < g.f3.length := by omega
      have hjb : j < 2097152 := by have := bulks_len g.f3; have := HS.out.2.1; have := HS.out.2.2; omega
      have hjN := Aside0.mk hj
      obtain ⟨a3, B1, d1, B2, d2, B3, d3, ea, p0, p1, p2, p3, m1, q1, m2, q2, m3, q3⟩ := at_Ge HG.out.2.2.2.2.2 j (by omega) (by omega)
      subst ea
      rw [rd_Ge_at _ _ hil] at p0 p1 p2 p3 q1 q2 q3 m1 m2 m3
      rw [Int.toNat_natCast] at p0 p1 p2 p3
      have HGj := Aside0.mk (show IsG w0 (.agg #[.int .i64 (g.f3[j]).f0, .slice B1 (g.f3[j]).f1.length d1, .slice B2 (g.f3[j]).f2.length d2, .slice B3 (g.f3[j]).f3.length d3]) g.f3[j] from ⟨B1, d1, B2, d2, B3, d3, rfl, m1, q1, m2, q2, m3, q3⟩)
      have p0' := cell_below HF.out.1.K p0
      have p1' := cell_below HF.out.1.K p1
      have p2' := cell_below HF.out.1.K p2
      have p3' := cell_below HF.out.1.K p3
      have HTK := Aside0.mk (List.take_succ_eq_append_getElem hil)
      have hbt : bulks (g.f3.take j) + (g.f3[j]).bulk ≤ bulks g.f3 := by
        have h9 := bulks_take g.f3 (j + 1)
        rw [HTK.out, bulks_app] at h9
        simp only [bulks] at h9
        omega
      have hst := sizesW_take g.f3 (j + 1)
      rw [HTK.out, sizesW_snoc] at hst
      obtain ⟨c, hc⟩ : ∃ c, c = g.f3[j] := ⟨_, rfl⟩
      rw [← hc] at p0' p1' p2' p3' HGj HTK hbt hst
      have hws := (walk_size n).2 (g.f3.take j) (B, pq + 9) (by have := HS.out.2.1; have := HS.out.2.2; omega) (by
        have h1 := HS.out.1
        rw [HWS.out, if_neg eb.out.1, if_neg eb.out.2.1, if_neg eb.out.2.2] at h1
        dsimp only
        omega)
      have HLN := Aside0.mk (show c.bulk ≤ n ∧ (walkL (g.f3.take j) (B, pq + 9)).1.length ≤ 1048576 ∧ (walkL (g.f3.take j) (B, pq + 9)).2 + sizeW c ≤ (walkL (g.f3.take j) (B, pq + 9)).1.length from by
        have h0 := HS.out.2.1
        have h2 := HS.out.2.2
        have h1 := HS.out.1
        rw [HWS.out, if_neg eb.out.1, if_neg eb.out.2.1, if_neg eb.out.2.2] at h1
        rw [hws.1, hws.2]
        dsimp only
        exact ⟨by omega, hB, by omega⟩)
      clear hc p0 p1 p2 p3 q1 q2 q3 m1 m2 m3 hbt hst hws
      go_wp2_with fail
      refine (IH.out _ c w0 wr wr gf gb cb _ _ HGj.out HLN.out.1 (by omega) HLN.out.2.1 HLN.out.2.2 HF.out.1.here).mono ?_
      rintro e w7 ⟨rfl, hF7⟩
      have H7 := Aside0.mk (show Fi w0 Ws w7 gf gb cb (walkL (g.f3.take (j + 1)) (B, pq + 9)).1 (walkL (g.f3.take (j + 1)) (B, pq + 9)).2 ∧ w7.heap[gx]? = some (.cells #[.int .i64 g.f0, .slice A1 g.f1.length c1, .slice A2 g.f2.length c2, .slice (some a3) g.f3.length c3] 28 (0, 0)) by
        rw [HTK.out, walkL_snoc]
        exact ⟨HF.out.1.then_ hF7, (hF7.k.k gx (blk_lt HF.out.2) (fun e => HGX.out.1 e.symm) (fun e => HGX.out.2 e.symm)).trans HF.out.2⟩)
      clear HF hF7 p0' p1' p2' p3' k3
      go_wp2_with fail
      go_roundg kq
      case measure => omega
      case rel => exact ⟨j + 1, by have := hjN.out; omega, by go_num, H7⟩
end Go.Proofs.Ytiiolhnpnlmkjaa.Tree
