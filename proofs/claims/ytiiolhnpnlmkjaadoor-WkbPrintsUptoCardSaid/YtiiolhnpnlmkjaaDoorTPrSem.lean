/- Trees that the check takes: their kinds, and how many bytes they have; in plain Lean. No conditions but those told. -/
import Derived.Test.YtiiolhnpnlmkjaaDoorTPGeom
import Derived.Test.YtiiolhnpnlmkjaaDoorTErrs
namespace Go.Proofs.YtiiolhnpnlmkjaaDoor.Tree
open Go.RowKit Go.Proofs.YtiiolhnpnlmkjaaDoor.PWkbPrints Go.Proofs.YtiiolhnpnlmkjaaDoorW.PrintWords Go.Proofs.YtiiolhnpnlmkjaaDoorW.PrintLast Go.Proofs.YtiiolhnpnlmkjaaDoorW.PrintMore
set_option linter.unusedVariables false
set_option linter.unusedSimpArgs false
attribute [local go_sem] Oper.semAt_some max2_int max_two min2_int min_two
/-- What is written: nothing, where the check does not take the tree. -/
def mixedB (os : List Bool) (g : Ge) : List Int := if checkR g = none then geoB os g 0 else []
theorem mixedB_len (os : List Bool) (g : Ge) : (mixedB os g).length ≤ 32 * g.bulk := by
  unfold mixedB
  split
  · exact (geoB_le os g 0).1
  · simp
theorem ErrV.iface {w : World} {v : Value} {a c : Int} (h : ErrV w v (some (a, c))) : ∃ g : Nat, v = .iface 109 (.pointer (some ⟨g, 0, none⟩)) := by
  obtain ⟨g, e, _⟩ := h
  exact ⟨g, e⟩
set_option maxRecDepth 100000 in
set_option maxHeartbeats 16000000 in
theorem mixed_calls (v : Value) (g : Ge) (O : Option Addr) (co : Nat) (os : List Bool) (w : World) (hv : IsG w v g) (ho : Kd.bool.C w O os.length os) (hbk : g.bulk ≤ 2097152) (hos : os.length ≤ 1152921504606846976) :
    Calls Tryd.prog 24 #[v, .slice O os.length co] w fun e w' => ∃ u er, e = .returned (.tuple #[u, er]) ∧ kB.R 5 w' w.heap.size (fun _ => True) u (mixedB os g) ∧ ErrV w' er (checkR g) ∧ Below w.heap.size w w' := by
  have hv' := hv
  obtain ⟨A1, c1, A2, c2, A3, c3, rfl, l1, h1, l2, h2, l3, h3⟩ := hv'
  have HV := Aside0.mk hv
  have HO := Aside0.mk ho
  clear hv ho h1 h2 h3
  go_enter Tryd.func24, Tryd.ntmps24
  go_wp2_with fail
  obtain ⟨gb, hgb⟩ : ∃ y, y = w.heap.size := ⟨_, rfl⟩
  obtain ⟨W1, hW1⟩ : ∃ y, y = w.alloc (.cells #[.int .i64 g.f0, .slice A1 g.f1.length c1, .slice A2 g.f2.length c2, .slice A3 g.f3.length c3] 28) := ⟨_, rfl⟩
  rw [← hW1, ← hgb]
  have HB1 := Aside0.mk (show Below w.heap.size w W1 by rw [hW1]; exact below_alloc (Below.refl _ _) _)
  have BK := Aside0.mk (show W1.heap[gb]? = some (.cells #[.int .i64 g.f0, .slice A1 g.f1.length c1, .slice A2 g.f2.length c2, .slice A3 g.f3.length c3] 28 (0, 0)) by rw [hW1, hgb]; exact World.alloc_heap_new _ _)
  clear hW1 hgb
  refine (check_calls _ g W1 (HV.out.below HB1.out) (by omega)).mono ?_
  rintro e W2 ⟨er, rfl, her, hb2⟩
  have HB2 := Aside0.mk (below_step HB1.out hb2)
  have BK2 := Aside0.mk ((hb2.block gb (blk_lt BK.out)).trans BK.out)
  have HER := Aside0.mk her
  clear HB1 BK her hb2
  rcases hck : checkR g with _ | ⟨a, c⟩
  · obtain rfl : er = .nilIface := by have h9 := HER.out; rw [hck] at h9; exact h9
    have hb3 : Below W2.heap.size W2 (W2.alloc (.cells #[.slice none 0 0, .slice O os.length co, .int .i64 0] 103)) := below_alloc (Below.refl _ _) _
    have z0_ := pw_cell_below hb3 ((blk_cell BK2.out 0).trans rfl : W2.cell? ⟨gb, 0, none⟩ = some (.int .i64 g.f0))
    have z1_ := pw_cell_below hb3 ((blk_cell BK2.out 1).trans rfl : W2.cell? ⟨gb, 1, none⟩ = some (.slice A1 g.f1.length c1))
    have z2_ := pw_cell_below hb3 ((blk_cell BK2.out 2).trans rfl : W2.cell? ⟨gb, 2, none⟩ = some (.slice A2 g.f2.length c2))
    have z3_ := pw_cell_below hb3 ((blk_cell BK2.out 3).trans rfl : W2.cell? ⟨gb, 3, none⟩ = some (.slice A3 g.f3.length c3))
    have HP := Aside0.mk (show Pr 103 cfP W2 (W2.alloc (.cells #[.slice none 0 0, .slice O os.length co, .int .i64 0] 103)) W2.heap.size O co os 0 (.slice none 0 0) [] from
      ⟨World.alloc_heap_new _ _, Kd.R_nil _ _ _ _ _, Kd.C_below HO.out HB2.out, Nat.le_refl _, hb3⟩)
    clear hb3
    go_wp2_with fail
    refine (pgeom_calls g.bulk g W2 _ W2.heap.size O co os 0 _ [] _ (Nat.le_refl _) HP.out (HV.out.below HB2.out) (by simp; omega) (by omega) hos).mono ?_
    rintro e W4 ⟨rfl, v4, hp4, -⟩
    obtain ⟨A4, c4, rfl⟩ := Kd.R_slice hp4.r
    have z0_ : W4.cell? ⟨W2.heap.size, 0, none⟩ = some (.slice A4 ([] ++ geoB os g 0).length c4) := (blk_cell hp4.c 0).trans rfl
    rw [List.nil_append] at z0_ hp4
    have HP4 := Aside0.mk hp4
    clear hp4 HP
    go_wp2_with fail
    refine bodyPost_ret (results_tmp2 rfl _ _ _) rfl ?_
    exact ⟨.slice A4 (geoB os g 0).length c4, .nilIface, rfl, by rw [mixedB, if_pos hck]; exact Kd.R_lower (Kd.R_mono HP4.out.r (fun _ _ => trivial)) HB2.out.size, by rw [hck]; rfl, below_step HB2.out HP4.out.K⟩
  · obtain ⟨ge, rfl⟩ := ErrV.iface (by have h9 := HER.out; rw [hck] at h9; exact h9)
    go_wp2_with fail
    refine bodyPost_ret (results_tmp2 rfl _ _ _) rfl ?_
    exact ⟨.slice none 0 0, .iface 109 (.pointer (some ⟨ge, 0, none⟩)), rfl, by rw [mixedB, if_neg (by rw [hck]; simp)]; exact Kd.R_nil _ _ _ _ _, HER.out, HB2.out⟩
theorem bool_lit (W : World) (le : Bool) : Kd.bool.C (W.alloc (.cells #[.bool le] 4)) (some ⟨W.heap.size, 0, none⟩) 1 [le] := by
  have h : Kd.bool.R 4 (W.alloc (.cells #[.bool le] 4)) W.heap.size (fun _ => True) (.slice (some ⟨W.heap.size, 0, none⟩) 1 1) [le] :=
    Kd.R_of_own ⟨by simp [encs], .inr ⟨W.heap.size, 1, #[.bool le], rfl, Nat.le_refl _, World.alloc_heap_new _ _, Nat.le_refl _, by decide, by simp, by simp [encs]⟩⟩ (fun _ _ => trivial)
  exact (Kd.R_reads' h).2.2
set_option maxRecDepth 100000 in
set_option maxHeartbeats 16000000 in
theorem print_calls (v : Value) (g : Ge) (le : Bool) (w : World) (hv : IsG w v g) (hbk : g.bulk ≤ 2097152) :
    Calls Tryd.prog 22 #[v, .bool le] w fun e w' => ∃ u er, e = .returned (.tuple #[u, er]) ∧ kB.R 5 w' w.heap.size (fun _ => True) u (mixedB [le] g) ∧ ErrV w' er (checkR g) ∧ Below w.heap.size w w' := by
  have hv' := hv
  obtain ⟨A1, c1, A2, c2, A3, c3, rfl, l1, h1, l2, h2, l3, h3⟩ := hv'
  have HV := Aside0.mk hv
  clear hv h1 h2 h3
  go_enter Tryd.func22, Tryd.ntmps22
  go_wp2_with fail
  have hba : Below w.heap.size w (w.alloc (.cells #[.int .i64 g.f0, .slice A1 g.f1.length c1, .slice A2 g.f2.length c2, .slice A3 g.f3.length c3] 28)) := below_alloc (Below.refl _ _) _
  have hbb : Below w.heap.size w ((w.alloc (.cells #[.int .i64 g.f0, .slice A1 g.f1.length c1, .slice A2 g.f2.length c2, .slice A3 g.f3.length c3] 28)).alloc (.cells #[.bool le] 4)) := below_alloc hba _
  have hlt := bool_lit (w.alloc (.cells #[.int .i64 g.f0, .slice A1 g.f1.length c1, .slice A2 g.f2.length c2, .slice A3 g.f3.length c3] 28)) le
  rw [show (w.alloc (.cells #[.int .i64 g.f0, .slice A1 g.f1.length c1, .slice A2 g.f2.length c2, .slice A3 g.f3.length c3] 28)).heap.size = w.heap.size + 1 from by simp] at hlt
  refine (mixed_calls _ g (some ⟨w.heap.size + 1, 0, none⟩) 1 [le] _ (HV.out.below hbb) hlt hbk (by simp)).mono ?_
  rintro e W2 ⟨u, er, rfl, hu, her, hb2⟩
  have HU := Aside0.mk (And.intro (Kd.R_lower hu hbb.size) (And.intro her (below_step hbb hb2)))
  clear hba hbb hlt hu her hb2
  go_wp2_with fail
  refine bodyPost_ret (results_tmp2 rfl _ _ _) rfl ?_
  exact ⟨u, er, rfl, HU.out.1, HU.out.2.1, HU.out.2.2⟩
set_option maxRecDepth 100000 in
set_option maxHeartbeats 8000000 in
theorem told_yes (v : Value) (x : Option (Int × Int)) (at_ : Int) (w : World) (hg : Handle w) (hv : ErrV w v x) (hc : x ≠ none → codeOf x ≠ 0 ∧ at_ = placeOf x) :
    Calls Tryd.prog 14 #[v, .int .i64 (codeOf x), .int .i64 at_] w fun e w' => e = .returned (.bool true) ∧ Below w.heap.size w w' := by
  rcases hx : x with _ | ⟨a, c⟩
  · subst hx
    obtain rfl : v = .nilIface := hv
    have h0 : codeOf none = 0 := rfl
    rw [h0]
    clear hc
    go_enter Tryd.func14, Tryd.ntmps14
    go_wp2_with fail
    go_ret
    exact ⟨rfl, Below.refl _ _⟩
  · obtain ⟨h0, rfl⟩ := hc (by rw [hx]; simp)
    rw [← hx]
    obtain ⟨ge, rfl⟩ := ErrV.iface (by rw [hx] at hv; exact hv)
    have HG := Aside0.mk hg
    have HV := Aside0.mk hv
    obtain ⟨cc, hcc⟩ : ∃ y, y = codeOf x := ⟨_, rfl⟩
    obtain ⟨pp, hpp⟩ : ∃ y, y = placeOf x := ⟨_, rfl⟩
    have HCC := Aside0.mk hcc
    have HPP := Aside0.mk hpp
    rw [← hcc] at h0 ⊢
    rw [← hpp]
    have h0' : (cc == 0) = false := beq_eq_false_iff_ne.2 h0
    clear hcc hpp hx hg hv hc
    go_enter Tryd.func14, Tryd.ntmps14
    go_wp2_with fail
    refine (Code_calls _ x w HG.out HV.out).mono ?_
    rintro e w1 ⟨rfl, hb1⟩
    have HB1 := Aside0.mk hb1
    clear hb1
    rw [← HCC.out]
    go_wp2_with fail
    refine (Place_calls _ x w1 (Handle_below HG.out HB1.out) (HV.out.below HB1.out)).mono ?_
    rintro e w2 ⟨rfl, hb2⟩
    have HB2 := Aside0.mk (below_step HB1.out hb2)
    clear hb2
    rw [← HPP.out]
    go_wp2_with fail
    go_ret
    exact ⟨by simp, HB2.out⟩
end Go.Proofs.YtiiolhnpnlmkjaaDoor.Tree
namespace Go.Proofs.YtiiolhnpnlmkjaaDoor.Tree
open Go.RowKit Go.Proofs.YtiiolhnpnlmkjaaDoor.PWkbPrints Go.Proofs.YtiiolhnpnlmkjaaDoorW.PrintWords Go.Proofs.YtiiolhnpnlmkjaaDoorW.PrintLast Go.Proofs.YtiiolhnpnlmkjaaDoorW.PrintMore
set_option linter.unusedVariables false
set_option linter.unusedSimpArgs false
attribute [local go_sem] Oper.semAt_some max2_int max_two min2_int min_two
def ringsN (l : List (List Pt)) : Nat := 4 * l.length + 16 * l.flatten.length
theorem ringsN_snoc (l : List (List Pt)) (r : List Pt) : ringsN (l ++ [r]) = ringsN l + (4 + 16 * r.length) := by unfold ringsN; simp; omega
mutual
def sizeG : Ge → Nat
  | ⟨k, l, r, ps⟩ => if k = 1 then 21 else if k = 3 then 9 + ringsN r else 5 + (4 + 16 * l.length) + sizeL ps
def sizeL : List Ge → Nat
  | [] => 0
  | p :: ps => sizeG p + sizeL ps
end
theorem sizeG_eq (g : Ge) : sizeG g = if g.f0 = 1 then 21 else if g.f0 = 3 then 9 + ringsN g.f2 else 5 + (4 + 16 * g.f1.length) + sizeL g.f3 := by cases g; simp only [sizeG]
theorem sizeL_append (a b : List Ge) : sizeL (a ++ b) = sizeL a + sizeL b := by
  induction a with
  | nil => simp [sizeL]
  | cons p a ih => simp only [List.cons_append, sizeL, ih]; omega
theorem sizeL_snoc (a : List Ge) (p : Ge) : sizeL (a ++ [p]) = sizeL a + sizeG p := by rw [sizeL_append]; simp [sizeL]
theorem size_len (m : Nat) : (∀ g : Ge, g.bulk ≤ m → sizeG g ≤ 32 * g.bulk) ∧ (∀ l : List Ge, bulks l ≤ m → sizeL l ≤ 32 * bulks l) := by
  induction m with
  | zero =>
    refine ⟨fun g h => by have := g.bulk_eq; omega, fun l h => ?_⟩
    cases l with
    | nil => simp [sizeL, bulks]
    | cons p l => simp only [bulks] at h; have := p.bulk_eq; omega
  | succ m ih =>
    have hg : ∀ g : Ge, g.bulk ≤ m + 1 → sizeG g ≤ 32 * g.bulk := by
      intro g h
      have hb := g.bulk_eq
      have h1 := ih.2 g.f3 (by omega)
      rw [sizeG_eq]
      repeat' split
      · omega
      · unfold ringsN; omega
      · omega
    refine ⟨hg, fun l => ?_⟩
    induction l with
    | nil => intro _; simp [sizeL, bulks]
    | cons p l ihl =>
      intro h
      simp only [bulks] at h ⊢
      have h1 := hg p (by omega)
      have h2 := ihl (by omega)
      simp only [sizeL]
      omega
theorem sizeG_le (g : Ge) : sizeG g ≤ 32 * g.bulk := (size_len g.bulk).1 g (Nat.le_refl _)
theorem sizeL_le (l : List Ge) : sizeL l ≤ 32 * bulks l := (size_len (bulks l)).2 l (Nat.le_refl _)
set_option maxRecDepth 100000 in
set_option maxHeartbeats 16000000 in
theorem size_calls (n : Nat) : ∀ (v : Value) (g : Ge) (w : World), IsG w v g → g.bulk ≤ n → n ≤ 2097152 →
    Calls Tryd.prog 45 #[v] w fun e w' => e = .returned (.int .i64 (sizeG g)) ∧ Below w.heap.size w w' := by
  induction n with
  | zero => intro v g w _ h; have := g.bulk_eq; omega
  | succ n ih =>
  intro v g w hv hbk hn
  have hv' := hv
  obtain ⟨A1, c1, A2, c2, A3, c3, rfl, l1, h1, l2, h2, l3, h3⟩ := hv'
  have hbq := g.bulk_eq
  have HE := Aside0.mk (sizeG_eq g)
  have H2 := Aside0.mk h2
  have H3 := Aside0.mk h3
  have IH := Aside0.mk ih
  clear hv h1 h2 h3 ih
  go_enter Tryd.func45, Tryd.ntmps45
  have HB0 := Aside0.mk (fun o => (below_alloc (Below.refl w.heap.size w) o))
  by_cases k1 : g.f0 = 1
  · have k1' : (g.f0 == 1) = true := by rw [k1]; rfl
    rw [if_pos k1] at HE
    go_wp2_with fail
    go_ret
    exact ⟨by rw [HE.out]; rfl, HB0.out _⟩
  have k1' : (g.f0 == 1) = false := beq_eq_false_iff_ne.2 k1
  rw [if_neg k1] at HE
  by_cases k3 : g.f0 = 3
  · have k3' : (g.f0 == 3) = true := by rw [k3]; rfl
    rw [if_pos k3] at HE
    go_wp2_with fail
    go_loopg [3, 5, 21] g.f2.length (fun kq s3 x5 ii wr => ∃ i : Nat, s3 = .int .i64 ((9 + ringsN (g.f2.take i) : Nat) : Int) ∧ ii = .int .i64 (i : Int) ∧ i + kq = g.f2.length ∧ Aside0 (Below w.heap.size w wr))
    case atStart => exact ⟨0, rfl, rfl, by omega, ⟨HB0.out _⟩⟩
    case round =>
      clear HB0
      obtain ⟨i, rfl, rfl, hi, HB⟩ := hrel
      cases gk with
      | zero =>
        have hlt : ¬ ((i : Int) < (g.f2.length : Int)) := by omega
        obtain rfl : i = g.f2.length := by omega
        rw [List.take_length]
        go_wp2_with fail
        go_ret
        exact ⟨by rw [HE.out]; rfl, HB.out⟩
      | succ kq =>
        have hlt : (i : Int) < (g.f2.length : Int) := by omega
        have hil : i < g.f2.length := by omega
        obtain ⟨ad, A4, c4, e4, p0, hc4, hr4⟩ := at_L2 H2.out (i : Int) (by omega) (by omega)
        have hrd : rd_L2 g.f2 (i : Int) = g.f2[i] := by simp [rd_L2, List.getD_eq_getElem?_getD, List.getElem?_eq_getElem hil]
        rw [hrd, Int.toNat_natCast] at p0
        subst e4
        have p0' := cell_below HB.out p0
        have HTK := Aside0.mk (List.take_succ_eq_append_getElem hil)
        have hrn : ringsN (g.f2.take i) ≤ 4 * g.f2.length + 16 * g.f2.flatten.length ∧ g.f2[i].length ≤ g.f2.flatten.length := by
          have h9 := congrArg (fun l => l.flatten.length) (List.take_append_drop i g.f2)
          simp only [List.flatten_append, List.length_append] at h9
          rw [List.drop_eq_getElem_cons hil, List.flatten_cons, List.length_append] at h9
          unfold ringsN
          rw [List.length_take]
          omega
        obtain ⟨r, hr⟩ : ∃ r, r = g.f2[i] := ⟨_, rfl⟩
        rw [← hr] at p0' HTK hrn
        obtain ⟨m, hm⟩ : ∃ m, m = 9 + ringsN (g.f2.take i) := ⟨_, rfl⟩
        rw [← hm]
        have hm2 : m ≤ 100000000 := by omega
        have hr2 : r.length ≤ 2097152 := by omega
        have HM := Aside0.mk hm
        clear hrd p0 hr hr4 hc4 hm hrn
        go_wp2_with fail
        go_roundg kq
        case measure => omega
        case rel => exact ⟨i + 1, congrArg (Value.int IntKind.i64) (by rw [HTK.out, ringsN_snoc, ← Nat.add_assoc, ← HM.out]; omega), by go_num, by omega, HB⟩
  have k3' : (g.f0 == 3) = false := beq_eq_false_iff_ne.2 k3
  rw [if_neg k3] at HE
  have hb3 : g.f3.length ≤ 2097152 := by have := bulks_len g.f3; omega
  have hb1 : g.f1.length ≤ 2097152 := by omega
  go_wp2_with fail
  go_loopg [3, 7, 43] g.f3.length (fun kq s3 x7 ii wr => ∃ i : Nat, s3 = .int .i64 ((5 + (4 + 16 * g.f1.length) + sizeL (g.f3.take i) : Nat) : Int) ∧ ii = .int .i64 (i : Int) ∧ i + kq = g.f3.length ∧ Aside0 (Below w.heap.size w wr))
  case atStart => exact ⟨0, congrArg (Value.int IntKind.i64) (by simp only [List.take_zero, sizeL]; omega), rfl, by omega, ⟨HB0.out _⟩⟩
  case round =>
    clear HB0
    obtain ⟨i, rfl, rfl, hi, HB⟩ := hrel
    cases gk with
    | zero =>
      have hlt : ¬ ((i : Int) < (g.f3.length : Int)) := by omega
      obtain rfl : i = g.f3.length := by omega
      rw [List.take_length]
      go_wp2_with fail
      go_ret
      exact ⟨by rw [HE.out]; rfl, HB.out⟩
    | succ kq =>
      have hlt : (i : Int) < (g.f3.length : Int) := by omega
      have hil : i < g.f3.length := by omega
      obtain ⟨a3, B1, d1, B2, d2, B3, d3, ea, p0, p1, p2, p3, m1, q1, m2, q2, m3, q3⟩ := at_Ge H3.out i (by omega) (by omega)
      subst ea
      rw [rd_Ge_at _ _ hil] at p0 p1 p2 p3 q1 q2 q3 m1 m2 m3
      rw [Int.toNat_natCast] at p0 p1 p2 p3
      have HG := Aside0.mk (show IsG w (.agg #[.int .i64 (g.f3[i]).f0, .slice B1 (g.f3[i]).f1.length d1, .slice B2 (g.f3[i]).f2.length d2, .slice B3 (g.f3[i]).f3.length d3]) g.f3[i] from ⟨B1, d1, B2, d2, B3, d3, rfl, m1, q1, m2, q2, m3, q3⟩)
      have p0' := cell_below HB.out p0
      have p1' := cell_below HB.out p1
      have p2' := cell_below HB.out p2
      have p3' := cell_below HB.out p3
      have HTK := Aside0.mk (List.take_succ_eq_append_getElem hil)
      have hbt : bulks (g.f3.take i) + (g.f3[i]).bulk ≤ bulks g.f3 := by
        have h9 := bulks_take g.f3 (i + 1)
        rw [HTK.out, bulks_app] at h9
        simp only [bulks] at h9
        omega
      obtain ⟨c, hc⟩ : ∃ c, c = g.f3[i] := ⟨_, rfl⟩
      rw [← hc] at p0' p1' p2' p3' HG HTK hbt
      have hs1 := sizeL_le (g.f3.take i)
      have hs2 := sizeG_le c
      obtain ⟨m, hm⟩ : ∃ m, m = 5 + (4 + 16 * g.f1.length) + sizeL (g.f3.take i) := ⟨_, rfl⟩
      rw [← hm]
      have hm2 : m ≤ 1000000000 := by omega
      have hs3 : sizeG c ≤ 1000000000 := by omega
      have HM := Aside0.mk hm
      have HCB := Aside0.mk (show c.bulk ≤ n by omega)
      clear hc p0 p1 p2 p3 q1 q2 q3 m1 m2 m3 hbt hs1 hs2 hm
      go_wp2_with fail
      have hbl : Below w.heap.size w (wr.alloc (.cells #[.int .i64 c.f0, .slice B1 c.f1.length d1, .slice B2 c.f2.length d2, .slice B3 c.f3.length d3] 28)) := below_step HB.out (below_alloc (Below.refl _ _) _)
      refine (IH.out _ c _ (HG.out.below hbl) HCB.out (by omega)).mono ?_
      rintro e w7 ⟨rfl, hb7⟩
      have HB7 := Aside0.mk (below_step hbl hb7)
      clear hbl hb7 HB
      go_wp2_with fail
      go_roundg kq
      case measure => omega
      case rel => exact ⟨i + 1, congrArg (Value.int IntKind.i64) (by rw [HTK.out, sizeL_snoc, ← Nat.add_assoc, ← HM.out]; omega), by go_num, by omega, HB7⟩
def sizedN (g : Ge) : Nat := if checkR g = none then sizeG g else 0
set_option maxRecDepth 100000 in
set_option maxHeartbeats 16000000 in
theorem Size_calls (v : Value) (g : Ge) (w : World) (hv : IsG w v g) (hbk : g.bulk ≤ 2097152) :
    Calls Tryd.prog 23 #[v] w fun e w' => ∃ er, e = .returned (.tuple #[.int .i64 (sizedN g), er]) ∧ ErrV w' er (checkR g) ∧ Below w.heap.size w w' := by
  have hv' := hv
  obtain ⟨A1, c1, A2, c2, A3, c3, rfl, l1, h1, l2, h2, l3, h3⟩ := hv'
  have HV := Aside0.mk hv
  clear hv h1 h2 h3
  go_enter Tryd.func23, Tryd.ntmps23
  go_wp2_with fail
  obtain ⟨gb, hgb⟩ : ∃ y, y = w.heap.size := ⟨_, rfl⟩
  obtain ⟨W1, hW1⟩ : ∃ y, y = w.alloc (.cells #[.int .i64 g.f0, .slice A1 g.f1.length c1, .slice A2 g.f2.length c2, .slice A3 g.f3.length c3] 28) := ⟨_, rfl⟩
  rw [← hW1, ← hgb]
  have HB1 := Aside0.mk (show Below w.heap.size w W1 by rw [hW1]; exact below_alloc (Below.refl _ _) _)
  have BK := Aside0.mk (show W1.heap[gb]? = some (.cells #[.int .i64 g.f0, .slice A1 g.f1.length c1, .slice A2 g.f2.length c2, .slice A3 g.f3.length c3] 28 (0, 0)) by rw [hW1, hgb]; exact World.alloc_heap_new _ _)
  clear hW1 hgb
  refine (check_calls _ g W1 (HV.out.below HB1.out) (by omega)).mono ?_
  rintro e W2 ⟨er, rfl, her, hb2⟩
  have HB2 := Aside0.mk (below_step HB1.out hb2)
  have BK2 := Aside0.mk ((hb2.block gb (blk_lt BK.out)).trans BK.out)
  have HER := Aside0.mk her
  clear HB1 BK her hb2
  rcases hck : checkR g with _ | ⟨a, c⟩
  · obtain rfl : er = .nilIface := by have h9 := HER.out; rw [hck] at h9; exact h9
    have z0_ : W2.cell? ⟨gb, 0, none⟩ = some (.int .i64 g.f0) := (blk_cell BK2.out 0).trans rfl
    have z1_ : W2.cell? ⟨gb, 1, none⟩ = some (.slice A1 g.f1.length c1) := (blk_cell BK2.out 1).trans rfl
    have z2_ : W2.cell? ⟨gb, 2, none⟩ = some (.slice A2 g.f2.length c2) := (blk_cell BK2.out 2).trans rfl
    have z3_ : W2.cell? ⟨gb, 3, none⟩ = some (.slice A3 g.f3.length c3) := (blk_cell BK2.out 3).trans rfl
    go_wp2_with fail
    refine (size_calls g.bulk _ g W2 (HV.out.below HB2.out) (Nat.le_refl _) hbk).mono ?_
    rintro e W4 ⟨rfl, hb4⟩
    have HB4 := Aside0.mk (below_step HB2.out hb4)
    clear hb4
    go_wp2_with fail
    refine bodyPost_ret (results_tmp2 rfl _ _ _) rfl ?_
    exact ⟨.nilIface, by rw [sizedN, if_pos hck]; rfl, by rw [hck]; rfl, HB4.out⟩
  · obtain ⟨ge, rfl⟩ := ErrV.iface (by have h9 := HER.out; rw [hck] at h9; exact h9)
    go_wp2_with fail
    refine bodyPost_ret (results_tmp2 rfl _ _ _) rfl ?_
    exact ⟨.iface 109 (.pointer (some ⟨ge, 0, none⟩)), by rw [sizedN, if_neg (by rw [hck]; simp)]; rfl, HER.out, HB2.out⟩
end Go.Proofs.YtiiolhnpnlmkjaaDoor.Tree
namespace Go.Proofs.YtiiolhnpnlmkjaaDoor.Tree
open Go.RowKit Go.Proofs.YtiiolhnpnlmkjaaDoor.PWkbPrints Go.Proofs.YtiiolhnpnlmkjaaDoorW.PrintWords Go.Proofs.YtiiolhnpnlmkjaaDoorW.PrintLast Go.Proofs.YtiiolhnpnlmkjaaDoorW.PrintMore
set_option linter.unusedVariables false
theorem scan_all : ∀ (l : List It) (k n : Nat), scanC k n l = none → ∀ x ∈ l, shapedB x = true := by
  intro l
  induction l with
  | nil => intro k n _ x hx; cases hx
  | cons y l ih =>
    intro k n h x hx
    rw [scanC_cons] at h
    split at h
    · rename_i h0
      rcases List.mem_cons.1 hx with rfl | hx
      · rw [wrong_eq] at h0
        by_cases hs : shapedB x = true
        · exact hs
        · exfalso
          rw [if_neg hs] at h0
          split at h0 <;> cases h0
      · exact ih _ _ h x hx
    · cases h
theorem code_some {g : Ge} {er : Int × Int} (hck : checkR g = some er) : codeOf (some er) ≠ 0 := by
  have h : ∀ (l : List It) (k n : Nat) (e : Int × Int), scanC k n l = some e → e.2 ≠ 0 := by
    intro l
    induction l with
    | nil => intro k n e h; cases h
    | cons y l ih =>
      intro k n e h
      rw [scanC_cons] at h
      split at h
      · exact ih _ _ e h
      · rename_i h0; cases h; exact h0
  exact h _ _ _ er hck
/-- Every geometry of a tree is shaped. -/
def AllS (g : Ge) (lvl o : Int) : Prop := ∀ x ∈ nodes g lvl o, shapedB x = true
theorem AllS.of {g : Ge} (h : checkR g = none) : AllS g 1 0 := scan_all _ _ _ h
theorem AllS.here {g : Ge} {lvl o : Int} (h : AllS g lvl o) : shapedB ⟨g, lvl, o⟩ = true := h _ (by rw [nodes_eq]; exact List.mem_cons_self ..)
theorem AllS.part {g p : Ge} {lvl o : Int} (h : AllS g lvl o) (hp : p ∈ g.f3) : AllS p (lvl + 1) g.f0 := by
  intro x hx
  refine h x ?_
  rw [nodes_eq]
  refine List.mem_cons_of_mem _ ?_
  rw [nodesL_flat]
  exact List.mem_flatten.2 ⟨_, List.mem_map.2 ⟨p, hp, rfl⟩, hx⟩
theorem shaped_parts {g : Ge} {lvl o : Int} (h : shapedB ⟨g, lvl, o⟩ = true) : (1 ≤ g.f0 ∧ g.f0 ≤ 7) ∧ (2 < g.f0 → g.f1.length = 0) ∧ (g.f0 < 4 → g.f3.length = 0) ∧ (g.f0 = 1 → g.f1.length ≤ 1) := by
  unfold shapedB kindB lacksB at h
  simp only [Bool.and_eq_true, Bool.or_eq_true, decide_eq_true_iff, Bool.not_eq_true', Bool.or_eq_false_iff, Bool.and_eq_false_iff, decide_eq_false_iff_not] at h
  obtain ⟨hk, _, ⟨h1, _, h3⟩, _, h4⟩ := h
  refine ⟨hk, fun h => ?_, fun h => ?_, fun h => ?_⟩
  · rcases h1 with h1 | h1 <;> omega
  · rcases h3 with h3 | h3 <;> omega
  · rcases h4 with h4 | h4
    · exact absurd h h4
    · exact h4
theorem kinds_of (m : Nat) : ∀ (g : Ge) (lvl o : Int), g.bulk ≤ m → AllS g lvl o → Kinds g := by
  induction m with
  | zero => intro g _ _ h; have := g.bulk_eq; omega
  | succ m ih =>
    intro g lvl o hb h
    refine .mk g (shaped_parts h.here).1 (fun p hp => ih p (lvl + 1) g.f0 ?_ (h.part hp))
    have := g.bulk_eq
    have := bulks_mem hp
    omega
theorem size_eq (os : List Bool) (m : Nat) : ∀ (g : Ge) (lvl o : Int) (n : Nat), g.bulk ≤ m → AllS g lvl o → sizeG g = (geoB os g n).length := by
  induction m with
  | zero => intro g _ _ _ h; have := g.bulk_eq; omega
  | succ m ih =>
    intro g lvl o n hb h
    have hbq := g.bulk_eq
    obtain ⟨hk, s1, s3, s4⟩ := shaped_parts h.here
    have hparts : ∀ (l : List Ge) (k : Nat), (∀ p ∈ l, p ∈ g.f3) → sizeL l = (partsB os l k).length := by
      intro l
      induction l with
      | nil => intro k _; rfl
      | cons p l ihl =>
        intro k hs
        have hp := hs p (List.mem_cons_self ..)
        simp only [sizeL, partsB, List.length_append]
        rw [ihl (k + cntG p) (fun q hq => hs q (List.mem_cons_of_mem _ hq)), ih p (lvl + 1) g.f0 k (by have := bulks_mem hp; omega) (h.part hp)]
    have hpar := hparts g.f3 (n + 1) (fun p hp => hp)
    have e1 := ptsB_len (ordAt os n) [nanP]
    have e2 := ptsB_len (ordAt os n) g.f1
    have e3 := ringsB_len (ordAt os n) g.f2
    simp only [List.length_singleton] at e1
    rw [sizeG_eq, geoB_eq]
    simp only [List.length_append, P32_len, bitB, List.length_singleton]
    by_cases k1 : g.f0 = 1
    · rw [if_pos k1, if_pos k1]
      have := s4 k1
      split
      · rw [e1]
      · rw [e2]; omega
    rw [if_neg k1, if_neg k1]
    by_cases k2 : g.f0 = 2
    · rw [if_neg (by omega), if_pos k2, List.length_append, P32_len, e2]
      have h0 := List.eq_nil_of_length_eq_zero (s3 (by omega))
      rw [h0]
      simp only [sizeL]
      omega
    rw [if_neg k2]
    by_cases k3 : g.f0 = 3
    · rw [if_pos k3, if_pos k3, List.length_append, P32_len, e3]
      unfold ringsN
      omega
    rw [if_neg k3, if_neg k3, List.length_append, P32_len, s1 (by omega), hpar]
    omega
theorem sized_eq (os : List Bool) (g : Ge) : sizedN g = (mixedB os g).length := by
  unfold sizedN mixedB
  split
  · rename_i h
    exact size_eq os g.bulk g 1 0 0 (Nat.le_refl _) (AllS.of h)
  · rfl
end Go.Proofs.YtiiolhnpnlmkjaaDoor.Tree
