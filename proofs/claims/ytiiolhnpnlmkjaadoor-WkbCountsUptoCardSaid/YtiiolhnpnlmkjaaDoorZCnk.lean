/- Texts of this claim laid one behind the other (TWAlive; TLawLimits; TLawCuts; TMem; TCntM; TLawCounts): what each proves stands at its own names; the last one is the claim's. No conditions but those told. -/
import Derived.Test.YtiiolhnpnlmkjaaDoorZCnj
import Derived.Laws.Bits128
namespace Go.Proofs.YtiiolhnpnlmkjaaDoor.Tree
open Go.RowKit Go.Proofs.YtiiolhnpnlmkjaaDoor.PWkbPrints Go.Proofs.YtiiolhnpnlmkjaaDoorW.PrintWords Go.Proofs.YtiiolhnpnlmkjaaDoorW.PrintLast Go.Proofs.YtiiolhnpnlmkjaaDoorW.PrintMore
attribute [local go_sem] Oper.semAt_some max2_int max_two min2_int min_two
def gA : Ge := ⟨1, [⟨4607182418800017408, 4611686018427387904⟩], [], []⟩
def bA : List Int := [1, 1, 0, 0, 0, 0, 0, 0, 0, 0, 0, 240, 63, 0, 0, 0, 0, 0, 0, 0, 64]
def sA : ByteArray := ⟨#[48, 49, 48, 49, 48, 48, 48, 48, 48, 48, 48, 48, 48, 48, 48, 48, 48, 48, 48, 48, 48, 48, 102, 48, 51, 102, 48, 48, 48, 48, 48, 48, 48, 48, 48, 48, 48, 48, 48, 48, 52, 48]⟩
theorem gA_check : checkR gA = none := by kernel_rfl
theorem gA_bytes : geoB [true] gA 0 = bA := by kernel_rfl
theorem gA_parsed : parsedR bA 1 21 = .ok (gA, [true]) := by kernel_rfl
theorem gA_hex : PMk.octet_Hex.f 30 bA = some sA := by kernel_rfl
set_option maxRecDepth 100000 in
set_option maxHeartbeats 16000000 in
theorem alive_calls (w : World) : Calls Tryd.prog 27 #[] w fun e w' => e = .returned (.bool true) ∧ Below w.heap.size w w' := by
  have hu := Tryd.underlying28
  go_enter Tryd.func27, Tryd.ntmps27
  go_upto_region 2 with fail
  obtain ⟨gl, hgl⟩ : ∃ y, y = w.heap.size := ⟨_, rfl⟩
  obtain ⟨W1, hW1⟩ : ∃ y, y = (w.alloc (.cells #[.int .u64 4607182418800017408, .int .u64 4611686018427387904] 82)).alloc (.cells #[.int .i64 1, .slice (some ⟨w.heap.size, 0, none⟩) 1 1, .slice none 0 0, .slice none 0 0] 28) := ⟨_, rfl⟩
  rw [← hW1, ← hgl]
  have hb1 : Below w.heap.size w W1 := by rw [hW1]; exact below_alloc (below_alloc (Below.refl _ _) _) _
  have kl : W1.heap[gl]? = some (.cells #[.int .u64 4607182418800017408, .int .u64 4611686018427387904] 82 (0, 0)) := by rw [hW1, hgl]; exact blk_alloc (World.alloc_heap_new _ _) _
  have kg : W1.heap[gl + 1]? = some (.cells #[.int .i64 1, .slice (some ⟨gl, 0, none⟩) 1 1, .slice none 0 0, .slice none 0 0] 28 (0, 0)) := by
    rw [hW1, hgl]
    have h9 := World.alloc_heap_new (w.alloc (.cells #[.int .u64 4607182418800017408, .int .u64 4611686018427387904] 82)) (.cells #[.int .i64 1, .slice (some ⟨w.heap.size, 0, none⟩) 1 1, .slice none 0 0, .slice none 0 0] 28)
    simpa using h9
  have hIG : IsG W1 (.agg #[.int .i64 1, .slice (some ⟨gl, 0, none⟩) 1 1, .slice none 0 0, .slice none 0 0]) gA := ⟨_, 1, none, 0, none, 0, rfl, Nat.le_refl _, lit_pt (q := ⟨4607182418800017408, 4611686018427387904⟩) kl, Nat.le_refl _, Kd.C_nil _ _, Nat.le_refl _, Kd.C_nil _ _⟩
  have H1 := Aside0.mk (And.intro (And.intro hb1 kg) hIG)
  have z0_ : W1.cell? ⟨gl + 1, 0, none⟩ = some (.int .i64 1) := (blk_cell kg 0).trans rfl
  have z1_ : W1.cell? ⟨gl + 1, 1, none⟩ = some (.slice (some ⟨gl, 0, none⟩) 1 1) := (blk_cell kg 1).trans rfl
  have z2_ : W1.cell? ⟨gl + 1, 2, none⟩ = some (.slice none 0 0) := (blk_cell kg 2).trans rfl
  have z3_ : W1.cell? ⟨gl + 1, 3, none⟩ = some (.slice none 0 0) := (blk_cell kg 3).trans rfl
  clear hW1 hgl hb1 kl kg hIG
  go_wp2_with fail
  refine (print_calls _ gA true W1 H1.out.2 (by decide)).mono ?_
  rintro e W2 ⟨u, er, rfl, hR, hE, hb2⟩
  rw [mixedB, if_pos gA_check, gA_bytes] at hR
  rw [gA_check] at hE
  obtain rfl : er = .nilIface := hE
  obtain ⟨A, c, e2⟩ := Kd.R_slice hR
  have hlA : bA.length = 21 := rfl
  rw [hlA] at e2
  subst e2
  have H2 := Aside0.mk (And.intro (And.intro (below_step H1.out.1.1 hb2) (blk_below H1.out.1.2 hb2)) (And.intro (H1.out.2.below hb2) (Kd.R_reads' hR).2))
  clear z0_ z1_ z2_ z3_ hb2 hR H1
  go_wp2_with fail
  refine (parse_calls A c bA 1 21 W2 H2.out.2.2.2 H2.out.2.2.1 (by decide)).mono ?_
  rintro e W3 ⟨uh, eh, rfl, hb3, -, hO⟩
  obtain ⟨rfl, hcp⟩ := hO _ gA_parsed
  have hig := hcp.isG
  have H3 := Aside0.mk (And.intro (And.intro (below_step H2.out.1.1 hb3) (blk_below H2.out.1.2 hb3)) (And.intro (And.intro (H2.out.2.1.below hb3) (And.intro H2.out.2.2.1 (Kd.C_below H2.out.2.2.2 hb3))) hig))
  obtain ⟨k, A1, n1, c1, A2, n2, c2, A3, n3, c3, e3⟩ := hcp.agg
  subst e3
  clear hb3 hO hcp H2 hig
  go_upto_region 4 with fail
  obtain ⟨W4, hW4⟩ : ∃ y, y = W3.alloc (.cells #[.int .i64 k, .slice A1 n1 c1, .slice A2 n2 c2, .slice A3 n3 c3] 28) := ⟨_, rfl⟩
  obtain ⟨gh, hgh⟩ : ∃ y, y = W3.heap.size := ⟨_, rfl⟩
  rw [← hW4, ← hgh]
  have hb4 : Below W3.heap.size W3 W4 := by rw [hW4]; exact below_alloc (Below.refl _ _) _
  have kh : W4.heap[gh]? = some (.cells #[.int .i64 k, .slice A1 n1 c1, .slice A2 n2 c2, .slice A3 n3 c3] 28 (0, 0)) := by rw [hW4, hgh]; exact World.alloc_heap_new _ _
  have kg := blk_below H3.out.1.2 hb4
  have H4 := Aside0.mk (And.intro (And.intro (below_step H3.out.1.1 hb4) (And.intro kg kh)) (And.intro (And.intro (H3.out.2.1.1.below hb4) (And.intro H3.out.2.1.2.1 (Kd.C_below H3.out.2.1.2.2 hb4))) (H3.out.2.2.below hb4)))
  clear hW4 hgh hb4 kg kh H3
  go_wp2_with fail
  refine (PMk.octet_Hex.calls 30 A c bA sA W4 H4.out.2.1.2.2 H4.out.2.1.2.1 gA_hex).mono ?_
  rintro e W5 ⟨rfl, hb5⟩
  have H5 := Aside0.mk (And.intro (below_step H4.out.1.1 hb5) (And.intro (H4.out.2.1.1.below hb5) (H4.out.2.2.below hb5)))
  have kg := blk_below H4.out.1.2.1 hb5
  have kh := blk_below H4.out.1.2.2 hb5
  have z0_ : W5.cell? ⟨gl + 1, 0, none⟩ = some (.int .i64 1) := (blk_cell kg 0).trans rfl
  have z1_ : W5.cell? ⟨gl + 1, 1, none⟩ = some (.slice (some ⟨gl, 0, none⟩) 1 1) := (blk_cell kg 1).trans rfl
  have z2_ : W5.cell? ⟨gl + 1, 2, none⟩ = some (.slice none 0 0) := (blk_cell kg 2).trans rfl
  have z3_ : W5.cell? ⟨gl + 1, 3, none⟩ = some (.slice none 0 0) := (blk_cell kg 3).trans rfl
  have y0_ : W5.cell? ⟨gh, 0, none⟩ = some (.int .i64 k) := (blk_cell kh 0).trans rfl
  have y1_ : W5.cell? ⟨gh, 1, none⟩ = some (.slice A1 n1 c1) := (blk_cell kh 1).trans rfl
  have y2_ : W5.cell? ⟨gh, 2, none⟩ = some (.slice A2 n2 c2) := (blk_cell kh 2).trans rfl
  have y3_ : W5.cell? ⟨gh, 3, none⟩ = some (.slice A3 n3 c3) := (blk_cell kh 3).trans rfl
  have hstr : (sA.toList == [48, 49, 48, 49, 48, 48, 48, 48, 48, 48, 48, 48, 48, 48, 48, 48, 48, 48, 48, 48, 48, 48, 102, 48, 51, 102, 48, 48, 48, 48, 48, 48, 48, 48, 48, 48, 48, 48, 48, 48, 52, 48]) = true := by kernel_rfl
  clear hb5 H4 kg kh
  go_wp2_with fail
  refine (equal_calls gA.bulk _ _ gA gA W5 H5.out.2.1 H5.out.2.2 (Nat.le_refl _) (by decide) (by decide)).mono ?_
  rintro e W6 ⟨rfl, hb6⟩
  rw [eqG_true rfl]
  have HB6 := Aside0.mk (below_step H5.out.1 hb6)
  clear hb6
  go_wp2_with fail
  go_ret
  exact ⟨rfl, HB6.out⟩
end Go.Proofs.YtiiolhnpnlmkjaaDoor.Tree
namespace Go.Proofs.YtiiolhnpnlmkjaaDoor.Tree
open Go.RowKit Go.Proofs.YtiiolhnpnlmkjaaDoor.PWkbPrints Go.Proofs.YtiiolhnpnlmkjaaDoorW.PrintWords Go.Proofs.YtiiolhnpnlmkjaaDoorW.PrintLast Go.Proofs.YtiiolhnpnlmkjaaDoorW.PrintMore Go.Proofs.YtiiolhnpnlmkjaaDoor.PMk
attribute [local go_sem] Oper.semAt_some max2_int max_two min2_int min_two
theorem code_ne {p c : Int} (h : c ≠ 0) : codeOf (some (p, c)) ≠ 0 := h
theorem info5b : (Tryd.prog.info? 5).map (fun i => (i.zero, i.size, i.bytes)) = some (some (.int .u8 0), 1, 1) := by kernel_rfl
set_option maxRecDepth 100000 in
set_option maxHeartbeats 8000000 in
theorem told_no (v : Value) (x : Option (Int × Int)) (c p : Int) (w : World) (hg : Handle w) (hv : ErrV w v x) (h0 : c ≠ 0) (hx : ∀ a, x = some (a, c) → a ≠ p) :
    Calls Tryd.prog 14 #[v, .int .i64 c, .int .i64 p] w fun e w' => e = .returned (.bool false) ∧ Below w.heap.size w w' := by
  have h0' : (c == 0) = false := beq_eq_false_iff_ne.2 h0
  rcases hxx : x with _ | ⟨a, k⟩
  · subst hxx
    obtain rfl : v = .nilIface := hv
    go_enter Tryd.func14, Tryd.ntmps14
    go_wp2_with fail
    go_ret
    exact ⟨rfl, Below.refl _ _⟩
  · obtain ⟨ge, rfl⟩ := ErrV.iface (by rw [hxx] at hv; exact hv)
    rw [hxx] at hv
    have HG := Aside0.mk hg
    have HV := Aside0.mk hv
    have HX := Aside0.mk hx
    have HXX := Aside0.mk hxx
    clear hg hv hx hxx
    by_cases hk : k = c
    · subst hk
      have hap : (a == p) = false := beq_eq_false_iff_ne.2 (HX.out a HXX.out)
      go_enter Tryd.func14, Tryd.ntmps14
      go_wp2_with fail
      refine (Code_calls _ (some (a, k)) w HG.out HV.out).mono ?_
      rintro e w1 ⟨rfl, hb1⟩
      have HB1 := Aside0.mk hb1
      clear hb1
      rw [show codeOf (some (a, k)) = k from rfl]
      go_wp2_with fail
      refine (Place_calls _ (some (a, k)) w1 (Handle_below HG.out HB1.out) (HV.out.below HB1.out)).mono ?_
      rintro e w2 ⟨rfl, hb2⟩
      have HB2 := Aside0.mk (below_step HB1.out hb2)
      clear hb2
      rw [show placeOf (some (a, k)) = a from rfl]
      go_wp2_with fail
      go_ret
      exact ⟨rfl, HB2.out⟩
    · have hkc : (k == c) = false := beq_eq_false_iff_ne.2 hk
      go_enter Tryd.func14, Tryd.ntmps14
      go_wp2_with fail
      refine (Code_calls _ (some (a, k)) w HG.out HV.out).mono ?_
      rintro e w1 ⟨rfl, hb1⟩
      have HB1 := Aside0.mk hb1
      clear hb1
      rw [show codeOf (some (a, k)) = k from rfl]
      go_wp2_with fail
      go_ret
      exact ⟨rfl, HB1.out⟩
theorem put32_row (u : Value) (xs : List Int) (v : Int) (le : Bool) (w0 W : World) (h : kB.R 5 W w0.heap.size (fun _ => True) u xs) (hb : Below w0.heap.size w0 W) (hl : xs.length ≤ 100) : Calls Tryd.prog 35 #[u, .int .u32 v, .bool le] W fun e W' => ∃ u', e = .returned u' ∧ kB.R 5 W' w0.heap.size (fun _ => True) u' (xs ++ P32 v le) ∧ Below w0.heap.size w0 W' := by
  obtain ⟨A, c, rfl⟩ := Kd.R_slice h
  have h1 := Kd.R_reads' h
  refine (put32_any A c xs v le W h1.2.2 h1.2.1 hl).mono ?_
  rintro e W' ⟨u', rfl, hu, hb'⟩
  exact ⟨u', rfl, Kd.R_lower hu hb.size, below_step hb hb'⟩
theorem byte_row (w0 W : World) (v : Int) (hb : Below w0.heap.size w0 W) : kB.R 5 (W.alloc (.cells #[.int .u8 v] 5)) w0.heap.size (fun _ => True) (.slice (some ⟨W.heap.size, 0, none⟩) 1 1) [v] :=
  Kd.R_of_own ⟨by simp [encs], .inr ⟨W.heap.size, 1, #[.int .u8 v], rfl, hb.size, World.alloc_heap_new _ _, Nat.le_refl _, by decide, by simp, by simp [encs]⟩⟩ (fun _ _ => trivial)
set_option maxRecDepth 100000 in
set_option maxHeartbeats 32000000 in
theorem members_calls (a0 a1 : Int) (W : World) (hh : Handle W) :
    Calls Tryd.prog 34 #[.int .i64 a0, .int .i64 a1] W fun e W' => e = .returned (.bool true) ∧ Below W.heap.size W W' := by
  have hu := Tryd.underlying28
  have HH := Aside0.mk hh
  have HB := Aside0.mk (Below.refl W.heap.size W)
  clear hh
  go_enter Tryd.func34, Tryd.ntmps34
  go_wp2_with fail
  refine (intoM_calls a0 4 (by omega) (by omega) W).mono ?_
  rintro e W1 ⟨rfl, hb_⟩
  have hr_ := intoN_range a0 4 (by omega)
  obtain ⟨k, hk⟩ : ∃ z : Int, z = 4 + intoN a0 4 := ⟨_, rfl⟩
  have Hk := Aside0.mk (show 4 ≤ k ∧ k ≤ 7 by omega)
  have hw_ : IntKind.i64.wrap (4 + intoN a0 4) = k := by rw [IntKind.wrap_i64]; omega
  clear hk hr_
  replace HB := Aside0.mk (below_step HB.out hb_)
  clear hb_
  go_wp2_with fail
  clear hw_
  refine (intoM_calls a1 7 (by omega) (by omega) W1).mono ?_
  rintro e W2 ⟨rfl, hb_⟩
  have hr_ := intoN_range a1 7 (by omega)
  obtain ⟨p, hp⟩ : ∃ z : Int, z = 1 + intoN a1 7 := ⟨_, rfl⟩
  have Hp := Aside0.mk (show 1 ≤ p ∧ p ≤ 7 by omega)
  have hw_ : IntKind.i64.wrap (1 + intoN a1 7) = p := by rw [IntKind.wrap_i64]; omega
  clear hp hr_
  replace HB := Aside0.mk (below_step HB.out hb_)
  clear hb_
  have hwk : IntKind.u32.wrap k = k := by have := Hk.out; rw [IntKind.wrap_u32]; omega
  have hwp : IntKind.u32.wrap p = p := by have := Hp.out; rw [IntKind.wrap_u32]; omega
  go_wp2_with fail
  clear hw_
  refine (put32_row _ [0] k false W _ (byte_row W W2 0 HB.out) (below_alloc HB.out _) (by simp)).mono ?_
  rintro e w1 ⟨u1, rfl, hr1, hb1⟩
  have R1 := Aside0.mk (And.intro hr1 hb1)
  clear hr1 hb1
  go_wp2_with fail
  refine (put32_row _ _ 1 false W _ R1.out.1 R1.out.2 (by rw [List.length_append, P32_len]; simp)).mono ?_
  rintro e w2 ⟨u2, rfl, hr2, hb2⟩
  have R2 := Aside0.mk (And.intro hr2 hb2)
  clear hr2 hb2 R1
  go_wp2_with ((with_reducible refine gate_builtin (b := .append) (xs := #[.tmp 22, .tmp 23]) rfl ?_); at_builtin; refine Kd.R_append_rows (Kd.int .u8) (w0 := W) W.heap.size rfl (.tmp 22) (.tmp 23) 22 5 (.int .u8 0) 1 rfl Tryd.underlying22 info5b rfl (by decide) (by omega) u2 ([0] ++ P32 k false ++ P32 1 false) [1] _ 1 1 (fun _ => True) (fun _ => False) rfl rfl ?aO ?aR (fun _ _ h => h) (fun _ h => h.elim) ?aF ?aB ?aS ?aL ?_; (case aO => exact Kd.R_below R2.out.1 (below_alloc (Below.refl _ _) _)); (case aR => exact byte_lit _ 1); (case aF => exact (fun _ _ => trivial)); (case aB => exact below_alloc R2.out.2 _); (case aS => exact (below_alloc R2.out.2 _).size); (case aL => (simp only [List.length_append, P32_len, List.length_singleton]; omega)); intro v24 w24 ho24 hb24 hg24 hat24; have O24 := Aside0.mk (And.intro ho24 hb24); clear ho24 hb24 hg24 hat24)
  refine (put32_row _ _ p true W _ O24.out.1 O24.out.2 (by simp only [List.length_append, P32_len, List.length_singleton]; omega)).mono ?_
  rintro e w5 ⟨u5, rfl, hr5, hb5⟩
  obtain ⟨xs, hxs⟩ : ∃ z, z = [0] ++ P32 k false ++ P32 1 false ++ [1] ++ P32 p true := ⟨_, rfl⟩
  rw [← hxs] at hr5
  have hxl : xs.length = 14 := by rw [hxs]; simp only [List.length_append, P32_len, List.length_singleton]
  have HXS := Aside0.mk (And.intro hxs hxl)
  have R5 := Aside0.mk (And.intro hr5 hb5)
  clear hr5 hb5 R2 O24 hxs hxl HB
  go_wp2_with fail
  obtain ⟨N, hN⟩ : ∃ N, N = 16 := ⟨_, rfl⟩
  have HN := Aside0.mk hN
  clear hN
  go_loopg [7, 8] N (fun kq ui ii wr => ∃ (i : Nat) (v : Value), ui = v ∧ ii = .int .i64 (i : Int) ∧ i + kq = N ∧ Aside0 (kB.R 5 wr W.heap.size (fun _ => True) v (xs ++ List.replicate i 0) ∧ Below W.heap.size W wr))
  case atStart => exact ⟨0, u5, rfl, rfl, by omega, ⟨by simpa using R5.out.1, R5.out.2⟩⟩
  case round =>
    clear R5
    obtain ⟨i, v, rfl, rfl, hi, HR⟩ := hrel
    have HI := Aside0.mk hi
    clear hi
    cases gk with
    | succ kq =>
      have hi16 : i < 16 := by have := HI.out; have := HN.out; omega
      have hlt : (i : Int) < 16 := by omega
      go_wp2_with ((with_reducible refine gate_builtin (b := .append) (xs := #[.tmp 32, .tmp 33]) rfl ?_); at_builtin; refine Kd.R_append_rows (Kd.int .u8) (w0 := W) W.heap.size rfl (.tmp 32) (.tmp 33) 22 5 (.int .u8 0) 1 rfl Tryd.underlying22 info5b rfl (by decide) (by omega) _ (xs ++ List.replicate i 0) [0] _ 1 1 (fun _ => True) (fun _ => False) rfl rfl ?aO ?aR (fun _ _ h => h) (fun _ h => h.elim) ?aF ?aB ?aS ?aL ?_; (case aO => exact Kd.R_below HR.out.1 (below_alloc (Below.refl _ _) _)); (case aR => exact byte_lit _ 0); (case aF => exact (fun _ _ => trivial)); (case aB => exact below_alloc HR.out.2 _); (case aS => exact (below_alloc HR.out.2 _).size); (case aL => (have := HXS.out.2; simp only [List.length_append, List.length_replicate, List.length_singleton]; omega)); intro v34 w34 ho34 hb34 hg34 hat34; have O34 := Aside0.mk (And.intro ho34 hb34); clear ho34 hb34 hg34 hat34)
      go_roundg kq
      case measure => omega
      case rel => exact ⟨i + 1, _, rfl, by go_num, by have := HI.out; omega, ⟨by have h9 := O34.out.1; rw [List.append_assoc, ← List.replicate_succ'] at h9; exact h9, O34.out.2⟩⟩
    | zero =>
      obtain rfl : i = 16 := by have := HI.out; have := HN.out; omega
      have hlt : ¬ (((16 : Nat) : Int) < 16) := by omega
      have hR := HR.out.1
      have hb_ := HR.out.2
      have hBm : xs ++ List.replicate 16 0 = memB k p := by rw [HXS.out.1]; rfl
      rw [hBm] at hR
      obtain ⟨A, c, rfl⟩ := Kd.R_slice hR
      have hRR := (Kd.R_reads' hR).2
      rw [memB_len] at hRR ⊢
      have RB := Aside0.mk hRR
      have HB := Aside0.mk hb_
      have hcc : (30 : Int) ≤ (c : Int) := by have := hRR.1; omega
      have hcc2 : (18 : Int) ≤ (c : Int) := by omega
      clear hR hb_ hBm hRR HR HXS
      go_upto_region 11 with fail
      rcases (show (k = 4 ∧ k ≠ 7) ∨ (k ≠ 4 ∧ k = 7) ∨ (k ≠ 4 ∧ k ≠ 7) by omega) with hk | hk | hk
      · by_cases hp1 : p = 1
        · have HP1 := Aside0.mk hp1
          have hib := bad0 (k := k) (p := p) (by omega) (by omega)
          obtain rfl : k = 4 := by omega
          subst hp1
          clear hk
          have HC := Aside0.mk (show 30 ≤ c ∧ kB.C wr A 30 (memC 4 (1)) from ⟨by omega, by unfold memC; rw [if_pos HP1.out]; exact RB.out.2⟩)
          have hml : (memC 4 (1)).length = 30 := by rw [memC_len, if_pos HP1.out]
          have HML := Aside0.mk hml
          clear hml
          obtain ⟨h, os, q, hpr, hh3, hqp⟩ := mem_good Hk.out Hp.out hib
          have HPR := Aside0.mk (And.intro hpr (And.intro hh3 hqp))
          clear hpr hh3 hqp hib
          go_wp2_with fail
          have hpc := parse_ok A c (memC 4 (1)) 2 65536 wr h os (by rw [HML.out]; exact HC.out.2) (by rw [HML.out]; exact HC.out.1) (by rw [HML.out]; omega) HPR.out.1
          rw [HML.out] at hpc
          refine (hpc).mono ?_
          rintro e W41 ⟨X1, x1_, X2, x2_, X3, x3_, rfl, hcp, hb_⟩
          have IX := Aside0.mk (CopyOf.isG hcp)
          clear hcp
          replace HB := Aside0.mk (below_step HB.out hb_)
          clear hb_
          clear hpc
          go_upto_region 14 with fail
          obtain ⟨gx, hgx_⟩ : ∃ x, x = W41.heap.size := ⟨_, rfl⟩
          obtain ⟨W42, hW42_⟩ : ∃ x, x = W41.alloc (.cells #[.int .i64 h.f0, .slice X1 h.f1.length x1_, .slice X2 h.f2.length x2_, .slice X3 h.f3.length x3_] 28) := ⟨_, rfl⟩
          rw [← hW42_, ← hgx_]
          have KX := Aside0.mk (show W42.heap[gx]? = some (.cells #[.int .i64 h.f0, .slice X1 h.f1.length x1_, .slice X2 h.f2.length x2_, .slice X3 h.f3.length x3_] 28 (0, 0)) by rw [hW42_, hgx_]; exact World.alloc_heap_new _ _)
          have hb_ : Below W41.heap.size W41 W42 := by rw [hW42_]; exact below_alloc (Below.refl _ _) _
          clear hW42_ hgx_
          replace HB := Aside0.mk (below_step HB.out hb_)
          replace IX := Aside0.mk (IX.out.below hb_)
          clear hb_
          have zX0_ : W42.cell? ⟨gx, 0, none⟩ = some (.int .i64 h.f0) := (blk_cell KX.out 0).trans rfl
          have zX1_ : W42.cell? ⟨gx, 1, none⟩ = some (.slice X1 h.f1.length x1_) := (blk_cell KX.out 1).trans rfl
          have zX2_ : W42.cell? ⟨gx, 2, none⟩ = some (.slice X2 h.f2.length x2_) := (blk_cell KX.out 2).trans rfl
          have zX3_ : W42.cell? ⟨gx, 3, none⟩ = some (.slice X3 h.f3.length x3_) := (blk_cell KX.out 3).trans rfl
          go_wp2_with fail
          clear zX0_ zX1_ zX2_ zX3_
          refine (alive_calls W42).mono ?_
          rintro e W43 ⟨rfl, hb_⟩
          replace HB := Aside0.mk (below_step HB.out hb_)
          replace IX := Aside0.mk (IX.out.below hb_)
          replace KX := Aside0.mk (blk_below KX.out hb_)
          clear hb_
          have zX0_ : W43.cell? ⟨gx, 0, none⟩ = some (.int .i64 h.f0) := (blk_cell KX.out 0).trans rfl
          have zX1_ : W43.cell? ⟨gx, 1, none⟩ = some (.slice X1 h.f1.length x1_) := (blk_cell KX.out 1).trans rfl
          have zX2_ : W43.cell? ⟨gx, 2, none⟩ = some (.slice X2 h.f2.length x2_) := (blk_cell KX.out 2).trans rfl
          have zX3_ : W43.cell? ⟨gx, 3, none⟩ = some (.slice X3 h.f3.length x3_) := (blk_cell KX.out 3).trans rfl
          have hh3 := HPR.out.2.1
          have hl3 : h.f3.length = 1 := by rw [hh3]; rfl
          obtain ⟨A1, c1, A2', c2', A3, c3, he_, l1, h1, l2, h2, l3, h3⟩ := IX.out
          cases he_
          obtain ⟨a3, B1, d1, B2, d2, B3, d3, ea, p0, -, -, -, -⟩ := at_Ge h3 0 (by omega) (by omega)
          subst ea
          have hrd : (rd_Ge h.f3 0).f0 = 1 := by rw [hh3]; exact HPR.out.2.2
          rw [hrd, Int.toNat_zero] at p0
          rw [hl3] at *
          clear hh3 l1 h1 l2 h2 l3 h3 hrd hl3
          have p0' : W43.cell? a3 = some (.int .i64 (1)) := by simpa [Addr.add] using p0
          clear p0
          go_wp2_with fail
          go_ret
          exact ⟨rfl, HB.out⟩
        · have HP1 := Aside0.mk hp1
          have hib := bad1 (k := k) (p := p) ⟨hk.1, hp1⟩
          obtain rfl : k = 4 := by omega
          have hp1b : (p == 1) = false := beq_eq_false_iff_ne.2 hp1
          clear hk
          clear hp1
          have HC := Aside0.mk (show 18 ≤ c ∧ kB.C wr A 18 (memC 4 (p)) from ⟨by omega, by unfold memC; rw [if_neg HP1.out]; have h9 := Kd.C_take (m := 18) (by rw [memB_len]; exact RB.out.2) (by rw [memB_len]; omega); rw [List.length_take, memB_len] at h9; exact h9⟩)
          have hml : (memC 4 (p)).length = 18 := by rw [memC_len, if_neg HP1.out]
          have HML := Aside0.mk hml
          clear hml
          have HPR := Aside0.mk (mem_bad Hk.out Hp.out hib)
          clear hib
          go_wp2_with fail
          have hpc := parse_err A c (memC 4 (p)) 2 65536 wr (5, 173) (by rw [HML.out]; exact HC.out.2) (by rw [HML.out]; exact HC.out.1) (by rw [HML.out]; omega) HPR.out
          rw [HML.out] at hpc
          refine (hpc).mono ?_
          rintro e W41 ⟨gep, rfl, hev_, hb_⟩
          have EP := Aside0.mk hev_
          clear hev_
          replace HB := Aside0.mk (below_step HB.out hb_)
          clear hb_
          clear hpc
          go_upto_region 14 with fail
          obtain ⟨gx, hgx_⟩ : ∃ x, x = W41.heap.size := ⟨_, rfl⟩
          obtain ⟨W42, hW42_⟩ : ∃ x, x = W41.alloc (.cells #[.int .i64 0, .slice none 0 0, .slice none 0 0, .slice none 0 0] 28) := ⟨_, rfl⟩
          rw [← hW42_, ← hgx_]
          have KX := Aside0.mk (show W42.heap[gx]? = some (.cells #[.int .i64 0, .slice none 0 0, .slice none 0 0, .slice none 0 0] 28 (0, 0)) by rw [hW42_, hgx_]; exact World.alloc_heap_new _ _)
          have hb_ : Below W41.heap.size W41 W42 := by rw [hW42_]; exact below_alloc (Below.refl _ _) _
          clear hW42_ hgx_
          replace HB := Aside0.mk (below_step HB.out hb_)
          replace EP := Aside0.mk (ErrV.below EP.out hb_)
          clear hb_
          have zX0_ : W42.cell? ⟨gx, 0, none⟩ = some (.int .i64 0) := (blk_cell KX.out 0).trans rfl
          have zX1_ : W42.cell? ⟨gx, 1, none⟩ = some (.slice none 0 0) := (blk_cell KX.out 1).trans rfl
          have zX2_ : W42.cell? ⟨gx, 2, none⟩ = some (.slice none 0 0) := (blk_cell KX.out 2).trans rfl
          have zX3_ : W42.cell? ⟨gx, 3, none⟩ = some (.slice none 0 0) := (blk_cell KX.out 3).trans rfl
          go_wp2_with fail
          clear zX0_ zX1_ zX2_ zX3_
          refine (alive_calls W42).mono ?_
          rintro e W43 ⟨rfl, hb_⟩
          replace HB := Aside0.mk (below_step HB.out hb_)
          replace EP := Aside0.mk (ErrV.below EP.out hb_)
          replace KX := Aside0.mk (blk_below KX.out hb_)
          clear hb_
          have zX0_ : W43.cell? ⟨gx, 0, none⟩ = some (.int .i64 0) := (blk_cell KX.out 0).trans rfl
          have zX1_ : W43.cell? ⟨gx, 1, none⟩ = some (.slice none 0 0) := (blk_cell KX.out 1).trans rfl
          have zX2_ : W43.cell? ⟨gx, 2, none⟩ = some (.slice none 0 0) := (blk_cell KX.out 2).trans rfl
          have zX3_ : W43.cell? ⟨gx, 3, none⟩ = some (.slice none 0 0) := (blk_cell KX.out 3).trans rfl
          go_wp2_with fail
          clear zX0_ zX1_ zX2_ zX3_
          refine (told_yes _ (some (5, 173)) _ W43 (Handle_below HH.out HB.out) EP.out (fun _ => ⟨code_ne (by decide), rfl⟩)).mono ?_
          rintro e W44 ⟨rfl, hb_⟩
          replace HB := Aside0.mk (below_step HB.out hb_)
          replace EP := Aside0.mk (ErrV.below EP.out hb_)
          replace KX := Aside0.mk (blk_below KX.out hb_)
          clear hb_
          have zX0_ : W44.cell? ⟨gx, 0, none⟩ = some (.int .i64 0) := (blk_cell KX.out 0).trans rfl
          have zX1_ : W44.cell? ⟨gx, 1, none⟩ = some (.slice none 0 0) := (blk_cell KX.out 1).trans rfl
          have zX2_ : W44.cell? ⟨gx, 2, none⟩ = some (.slice none 0 0) := (blk_cell KX.out 2).trans rfl
          have zX3_ : W44.cell? ⟨gx, 3, none⟩ = some (.slice none 0 0) := (blk_cell KX.out 3).trans rfl
          go_wp2_with fail
          go_ret
          exact ⟨rfl, HB.out⟩
      · by_cases hp1 : p = 1
        · have HP1 := Aside0.mk hp1
          have hib := bad0 (k := k) (p := p) (by omega) (by omega)
          obtain rfl : k = 7 := by omega
          subst hp1
          clear hk
          have HC := Aside0.mk (show 30 ≤ c ∧ kB.C wr A 30 (memC 7 (1)) from ⟨by omega, by unfold memC; rw [if_pos HP1.out]; exact RB.out.2⟩)
          have hml : (memC 7 (1)).length = 30 := by rw [memC_len, if_pos HP1.out]
          have HML := Aside0.mk hml
          clear hml
          obtain ⟨h, os, q, hpr, hh3, hqp⟩ := mem_good Hk.out Hp.out hib
          have HPR := Aside0.mk (And.intro hpr (And.intro hh3 hqp))
          clear hpr hh3 hqp hib
          go_wp2_with fail
          have hpc := parse_ok A c (memC 7 (1)) 2 65536 wr h os (by rw [HML.out]; exact HC.out.2) (by rw [HML.out]; exact HC.out.1) (by rw [HML.out]; omega) HPR.out.1
          rw [HML.out] at hpc
          refine (hpc).mono ?_
          rintro e W41 ⟨X1, x1_, X2, x2_, X3, x3_, rfl, hcp, hb_⟩
          have IX := Aside0.mk (CopyOf.isG hcp)
          clear hcp
          replace HB := Aside0.mk (below_step HB.out hb_)
          clear hb_
          clear hpc
          go_upto_region 14 with fail
          obtain ⟨gx, hgx_⟩ : ∃ x, x = W41.heap.size := ⟨_, rfl⟩
          obtain ⟨W42, hW42_⟩ : ∃ x, x = W41.alloc (.cells #[.int .i64 h.f0, .slice X1 h.f1.length x1_, .slice X2 h.f2.length x2_, .slice X3 h.f3.length x3_] 28) := ⟨_, rfl⟩
          rw [← hW42_, ← hgx_]
          have KX := Aside0.mk (show W42.heap[gx]? = some (.cells #[.int .i64 h.f0, .slice X1 h.f1.length x1_, .slice X2 h.f2.length x2_, .slice X3 h.f3.length x3_] 28 (0, 0)) by rw [hW42_, hgx_]; exact World.alloc_heap_new _ _)
          have hb_ : Below W41.heap.size W41 W42 := by rw [hW42_]; exact below_alloc (Below.refl _ _) _
          clear hW42_ hgx_
          replace HB := Aside0.mk (below_step HB.out hb_)
          replace IX := Aside0.mk (IX.out.below hb_)
          clear hb_
          have zX0_ : W42.cell? ⟨gx, 0, none⟩ = some (.int .i64 h.f0) := (blk_cell KX.out 0).trans rfl
          have zX1_ : W42.cell? ⟨gx, 1, none⟩ = some (.slice X1 h.f1.length x1_) := (blk_cell KX.out 1).trans rfl
          have zX2_ : W42.cell? ⟨gx, 2, none⟩ = some (.slice X2 h.f2.length x2_) := (blk_cell KX.out 2).trans rfl
          have zX3_ : W42.cell? ⟨gx, 3, none⟩ = some (.slice X3 h.f3.length x3_) := (blk_cell KX.out 3).trans rfl
          go_wp2_with fail
          clear zX0_ zX1_ zX2_ zX3_
          refine (alive_calls W42).mono ?_
          rintro e W43 ⟨rfl, hb_⟩
          replace HB := Aside0.mk (below_step HB.out hb_)
          replace IX := Aside0.mk (IX.out.below hb_)
          replace KX := Aside0.mk (blk_below KX.out hb_)
          clear hb_
          have zX0_ : W43.cell? ⟨gx, 0, none⟩ = some (.int .i64 h.f0) := (blk_cell KX.out 0).trans rfl
          have zX1_ : W43.cell? ⟨gx, 1, none⟩ = some (.slice X1 h.f1.length x1_) := (blk_cell KX.out 1).trans rfl
          have zX2_ : W43.cell? ⟨gx, 2, none⟩ = some (.slice X2 h.f2.length x2_) := (blk_cell KX.out 2).trans rfl
          have zX3_ : W43.cell? ⟨gx, 3, none⟩ = some (.slice X3 h.f3.length x3_) := (blk_cell KX.out 3).trans rfl
          have hh3 := HPR.out.2.1
          have hl3 : h.f3.length = 1 := by rw [hh3]; rfl
          obtain ⟨A1, c1, A2', c2', A3, c3, he_, l1, h1, l2, h2, l3, h3⟩ := IX.out
          cases he_
          obtain ⟨a3, B1, d1, B2, d2, B3, d3, ea, p0, -, -, -, -⟩ := at_Ge h3 0 (by omega) (by omega)
          subst ea
          have hrd : (rd_Ge h.f3 0).f0 = 1 := by rw [hh3]; exact HPR.out.2.2
          rw [hrd, Int.toNat_zero] at p0
          rw [hl3] at *
          clear hh3 l1 h1 l2 h2 l3 h3 hrd hl3
          have p0' : W43.cell? a3 = some (.int .i64 (1)) := by simpa [Addr.add] using p0
          clear p0
          go_wp2_with fail
          go_ret
          exact ⟨rfl, HB.out⟩
        · have HP1 := Aside0.mk hp1
          have hib := bad0 (k := k) (p := p) (by omega) (by omega)
          obtain rfl : k = 7 := by omega
          have hp1b : (p == 1) = false := beq_eq_false_iff_ne.2 hp1
          clear hk
          clear hp1
          have HC := Aside0.mk (show 18 ≤ c ∧ kB.C wr A 18 (memC 7 (p)) from ⟨by omega, by unfold memC; rw [if_neg HP1.out]; have h9 := Kd.C_take (m := 18) (by rw [memB_len]; exact RB.out.2) (by rw [memB_len]; omega); rw [List.length_take, memB_len] at h9; exact h9⟩)
          have hml : (memC 7 (p)).length = 18 := by rw [memC_len, if_neg HP1.out]
          have HML := Aside0.mk hml
          clear hml
          obtain ⟨h, os, q, hpr, hh3, hqp⟩ := mem_good Hk.out Hp.out hib
          have HPR := Aside0.mk (And.intro hpr (And.intro hh3 hqp))
          clear hpr hh3 hqp hib
          go_wp2_with fail
          have hpc := parse_ok A c (memC 7 (p)) 2 65536 wr h os (by rw [HML.out]; exact HC.out.2) (by rw [HML.out]; exact HC.out.1) (by rw [HML.out]; omega) HPR.out.1
          rw [HML.out] at hpc
          refine (hpc).mono ?_
          rintro e W41 ⟨X1, x1_, X2, x2_, X3, x3_, rfl, hcp, hb_⟩
          have IX := Aside0.mk (CopyOf.isG hcp)
          clear hcp
          replace HB := Aside0.mk (below_step HB.out hb_)
          clear hb_
          clear hpc
          go_upto_region 14 with fail
          obtain ⟨gx, hgx_⟩ : ∃ x, x = W41.heap.size := ⟨_, rfl⟩
          obtain ⟨W42, hW42_⟩ : ∃ x, x = W41.alloc (.cells #[.int .i64 h.f0, .slice X1 h.f1.length x1_, .slice X2 h.f2.length x2_, .slice X3 h.f3.length x3_] 28) := ⟨_, rfl⟩
          rw [← hW42_, ← hgx_]
          have KX := Aside0.mk (show W42.heap[gx]? = some (.cells #[.int .i64 h.f0, .slice X1 h.f1.length x1_, .slice X2 h.f2.length x2_, .slice X3 h.f3.length x3_] 28 (0, 0)) by rw [hW42_, hgx_]; exact World.alloc_heap_new _ _)
          have hb_ : Below W41.heap.size W41 W42 := by rw [hW42_]; exact below_alloc (Below.refl _ _) _
          clear hW42_ hgx_
          replace HB := Aside0.mk (below_step HB.out hb_)
          replace IX := Aside0.mk (IX.out.below hb_)
          clear hb_
          have zX0_ : W42.cell? ⟨gx, 0, none⟩ = some (.int .i64 h.f0) := (blk_cell KX.out 0).trans rfl
          have zX1_ : W42.cell? ⟨gx, 1, none⟩ = some (.slice X1 h.f1.length x1_) := (blk_cell KX.out 1).trans rfl
          have zX2_ : W42.cell? ⟨gx, 2, none⟩ = some (.slice X2 h.f2.length x2_) := (blk_cell KX.out 2).trans rfl
          have zX3_ : W42.cell? ⟨gx, 3, none⟩ = some (.slice X3 h.f3.length x3_) := (blk_cell KX.out 3).trans rfl
          go_wp2_with fail
          clear zX0_ zX1_ zX2_ zX3_
          refine (alive_calls W42).mono ?_
          rintro e W43 ⟨rfl, hb_⟩
          replace HB := Aside0.mk (below_step HB.out hb_)
          replace IX := Aside0.mk (IX.out.below hb_)
          replace KX := Aside0.mk (blk_below KX.out hb_)
          clear hb_
          have zX0_ : W43.cell? ⟨gx, 0, none⟩ = some (.int .i64 h.f0) := (blk_cell KX.out 0).trans rfl
          have zX1_ : W43.cell? ⟨gx, 1, none⟩ = some (.slice X1 h.f1.length x1_) := (blk_cell KX.out 1).trans rfl
          have zX2_ : W43.cell? ⟨gx, 2, none⟩ = some (.slice X2 h.f2.length x2_) := (blk_cell KX.out 2).trans rfl
          have zX3_ : W43.cell? ⟨gx, 3, none⟩ = some (.slice X3 h.f3.length x3_) := (blk_cell KX.out 3).trans rfl
          have hh3 := HPR.out.2.1
          have hl3 : h.f3.length = 1 := by rw [hh3]; rfl
          obtain ⟨A1, c1, A2', c2', A3, c3, he_, l1, h1, l2, h2, l3, h3⟩ := IX.out
          cases he_
          obtain ⟨a3, B1, d1, B2, d2, B3, d3, ea, p0, -, -, -, -⟩ := at_Ge h3 0 (by omega) (by omega)
          subst ea
          have hrd : (rd_Ge h.f3 0).f0 = p := by rw [hh3]; exact HPR.out.2.2
          rw [hrd, Int.toNat_zero] at p0
          rw [hl3] at *
          clear hh3 l1 h1 l2 h2 l3 h3 hrd hl3
          have p0' : W43.cell? a3 = some (.int .i64 (p)) := by simpa [Addr.add] using p0
          clear p0
          go_wp2_with fail
          go_ret
          exact ⟨rfl, HB.out⟩
      · by_cases hp1 : p = 1
        · have HP1 := Aside0.mk hp1
          have hib := bad2 (k := k) (p := p) (by omega) (by omega)
          have hk4 : (k == 4) = false := beq_eq_false_iff_ne.2 hk.1
          have hk7 : (k == 7) = false := beq_eq_false_iff_ne.2 hk.2
          have hk7n : (k != 7) = true := bne_iff_ne.2 hk.2
          have hk7p : ¬ k = 7 := hk.2
          have hk4p : ¬ k = 4 := hk.1
          have hwk3 : IntKind.i64.wrap (k - 3) = k - 3 := by have := Hk.out; rw [IntKind.wrap_i64]; omega
          have hpk : ((1 : Int) == k - 3) = false := beq_eq_false_iff_ne.2 (by omega)
          have hpkp : ¬ (1 : Int) = k - 3 := by omega
          subst hp1
          clear hk
          have HC := Aside0.mk (show 30 ≤ c ∧ kB.C wr A 30 (memC k (1)) from ⟨by omega, by unfold memC; rw [if_pos HP1.out]; exact RB.out.2⟩)
          have hml : (memC k (1)).length = 30 := by rw [memC_len, if_pos HP1.out]
          have HML := Aside0.mk hml
          clear hml
          have HPR := Aside0.mk (mem_bad Hk.out Hp.out hib)
          clear hib
          go_wp2_with fail
          have hpc := parse_err A c (memC k (1)) 2 65536 wr (10, 172) (by rw [HML.out]; exact HC.out.2) (by rw [HML.out]; exact HC.out.1) (by rw [HML.out]; omega) HPR.out
          rw [HML.out] at hpc
          refine (hpc).mono ?_
          rintro e W41 ⟨gep, rfl, hev_, hb_⟩
          have EP := Aside0.mk hev_
          clear hev_
          replace HB := Aside0.mk (below_step HB.out hb_)
          clear hb_
          clear hpc
          go_upto_region 14 with fail
          obtain ⟨gx, hgx_⟩ : ∃ x, x = W41.heap.size := ⟨_, rfl⟩
          obtain ⟨W42, hW42_⟩ : ∃ x, x = W41.alloc (.cells #[.int .i64 0, .slice none 0 0, .slice none 0 0, .slice none 0 0] 28) := ⟨_, rfl⟩
          rw [← hW42_, ← hgx_]
          have KX := Aside0.mk (show W42.heap[gx]? = some (.cells #[.int .i64 0, .slice none 0 0, .slice none 0 0, .slice none 0 0] 28 (0, 0)) by rw [hW42_, hgx_]; exact World.alloc_heap_new _ _)
          have hb_ : Below W41.heap.size W41 W42 := by rw [hW42_]; exact below_alloc (Below.refl _ _) _
          clear hW42_ hgx_
          replace HB := Aside0.mk (below_step HB.out hb_)
          replace EP := Aside0.mk (ErrV.below EP.out hb_)
          clear hb_
          have zX0_ : W42.cell? ⟨gx, 0, none⟩ = some (.int .i64 0) := (blk_cell KX.out 0).trans rfl
          have zX1_ : W42.cell? ⟨gx, 1, none⟩ = some (.slice none 0 0) := (blk_cell KX.out 1).trans rfl
          have zX2_ : W42.cell? ⟨gx, 2, none⟩ = some (.slice none 0 0) := (blk_cell KX.out 2).trans rfl
          have zX3_ : W42.cell? ⟨gx, 3, none⟩ = some (.slice none 0 0) := (blk_cell KX.out 3).trans rfl
          go_wp2_with fail
          clear zX0_ zX1_ zX2_ zX3_
          refine (alive_calls W42).mono ?_
          rintro e W43 ⟨rfl, hb_⟩
          replace HB := Aside0.mk (below_step HB.out hb_)
          replace EP := Aside0.mk (ErrV.below EP.out hb_)
          replace KX := Aside0.mk (blk_below KX.out hb_)
          clear hb_
          have zX0_ : W43.cell? ⟨gx, 0, none⟩ = some (.int .i64 0) := (blk_cell KX.out 0).trans rfl
          have zX1_ : W43.cell? ⟨gx, 1, none⟩ = some (.slice none 0 0) := (blk_cell KX.out 1).trans rfl
          have zX2_ : W43.cell? ⟨gx, 2, none⟩ = some (.slice none 0 0) := (blk_cell KX.out 2).trans rfl
          have zX3_ : W43.cell? ⟨gx, 3, none⟩ = some (.slice none 0 0) := (blk_cell KX.out 3).trans rfl
          go_wp2_with fail
          clear zX0_ zX1_ zX2_ zX3_
          refine (told_yes _ (some (10, 172)) _ W43 (Handle_below HH.out HB.out) EP.out (fun _ => ⟨code_ne (by decide), rfl⟩)).mono ?_
          rintro e W44 ⟨rfl, hb_⟩
          replace HB := Aside0.mk (below_step HB.out hb_)
          replace EP := Aside0.mk (ErrV.below EP.out hb_)
          replace KX := Aside0.mk (blk_below KX.out hb_)
          clear hb_
          have zX0_ : W44.cell? ⟨gx, 0, none⟩ = some (.int .i64 0) := (blk_cell KX.out 0).trans rfl
          have zX1_ : W44.cell? ⟨gx, 1, none⟩ = some (.slice none 0 0) := (blk_cell KX.out 1).trans rfl
          have zX2_ : W44.cell? ⟨gx, 2, none⟩ = some (.slice none 0 0) := (blk_cell KX.out 2).trans rfl
          have zX3_ : W44.cell? ⟨gx, 3, none⟩ = some (.slice none 0 0) := (blk_cell KX.out 3).trans rfl
          go_wp2_with fail
          go_ret
          exact ⟨rfl, HB.out⟩
        · by_cases hp3 : p = k - 3
          · have HP1 := Aside0.mk hp1
            have hib := bad0 (k := k) (p := p) (by omega) (by omega)
            have hk4 : (k == 4) = false := beq_eq_false_iff_ne.2 hk.1
            have hk7 : (k == 7) = false := beq_eq_false_iff_ne.2 hk.2
            have hk7n : (k != 7) = true := bne_iff_ne.2 hk.2
            have hk7p : ¬ k = 7 := hk.2
            have hk4p : ¬ k = 4 := hk.1
            have hwk3 : IntKind.i64.wrap (k - 3) = k - 3 := by have := Hk.out; rw [IntKind.wrap_i64]; omega
            obtain rfl : p = k - 3 := hp3
            have hp1b : (k - 3 == 1) = false := beq_eq_false_iff_ne.2 hp1
            clear hk
            clear hp1
            have HC := Aside0.mk (show 18 ≤ c ∧ kB.C wr A 18 (memC k (k - 3)) from ⟨by omega, by unfold memC; rw [if_neg HP1.out]; have h9 := Kd.C_take (m := 18) (by rw [memB_len]; exact RB.out.2) (by rw [memB_len]; omega); rw [List.length_take, memB_len] at h9; exact h9⟩)
            have hml : (memC k (k - 3)).length = 18 := by rw [memC_len, if_neg HP1.out]
            have HML := Aside0.mk hml
            clear hml
            obtain ⟨h, os, q, hpr, hh3, hqp⟩ := mem_good Hk.out Hp.out hib
            have HPR := Aside0.mk (And.intro hpr (And.intro hh3 hqp))
            clear hpr hh3 hqp hib
            go_wp2_with fail
            have hpc := parse_ok A c (memC k (k - 3)) 2 65536 wr h os (by rw [HML.out]; exact HC.out.2) (by rw [HML.out]; exact HC.out.1) (by rw [HML.out]; omega) HPR.out.1
            rw [HML.out] at hpc
            refine (hpc).mono ?_
            rintro e W41 ⟨X1, x1_, X2, x2_, X3, x3_, rfl, hcp, hb_⟩
            have IX := Aside0.mk (CopyOf.isG hcp)
            clear hcp
            replace HB := Aside0.mk (below_step HB.out hb_)
            clear hb_
            clear hpc
            go_upto_region 14 with fail
            obtain ⟨gx, hgx_⟩ : ∃ x, x = W41.heap.size := ⟨_, rfl⟩
            obtain ⟨W42, hW42_⟩ : ∃ x, x = W41.alloc (.cells #[.int .i64 h.f0, .slice X1 h.f1.length x1_, .slice X2 h.f2.length x2_, .slice X3 h.f3.length x3_] 28) := ⟨_, rfl⟩
            rw [← hW42_, ← hgx_]
            have KX := Aside0.mk (show W42.heap[gx]? = some (.cells #[.int .i64 h.f0, .slice X1 h.f1.length x1_, .slice X2 h.f2.length x2_, .slice X3 h.f3.length x3_] 28 (0, 0)) by rw [hW42_, hgx_]; exact World.alloc_heap_new _ _)
            have hb_ : Below W41.heap.size W41 W42 := by rw [hW42_]; exact below_alloc (Below.refl _ _) _
            clear hW42_ hgx_
            replace HB := Aside0.mk (below_step HB.out hb_)
            replace IX := Aside0.mk (IX.out.below hb_)
            clear hb_
            have zX0_ : W42.cell? ⟨gx, 0, none⟩ = some (.int .i64 h.f0) := (blk_cell KX.out 0).trans rfl
            have zX1_ : W42.cell? ⟨gx, 1, none⟩ = some (.slice X1 h.f1.length x1_) := (blk_cell KX.out 1).trans rfl
            have zX2_ : W42.cell? ⟨gx, 2, none⟩ = some (.slice X2 h.f2.length x2_) := (blk_cell KX.out 2).trans rfl
            have zX3_ : W42.cell? ⟨gx, 3, none⟩ = some (.slice X3 h.f3.length x3_) := (blk_cell KX.out 3).trans rfl
            go_wp2_with fail
            clear zX0_ zX1_ zX2_ zX3_
            refine (alive_calls W42).mono ?_
            rintro e W43 ⟨rfl, hb_⟩
            replace HB := Aside0.mk (below_step HB.out hb_)
            replace IX := Aside0.mk (IX.out.below hb_)
            replace KX := Aside0.mk (blk_below KX.out hb_)
            clear hb_
            have zX0_ : W43.cell? ⟨gx, 0, none⟩ = some (.int .i64 h.f0) := (blk_cell KX.out 0).trans rfl
            have zX1_ : W43.cell? ⟨gx, 1, none⟩ = some (.slice X1 h.f1.length x1_) := (blk_cell KX.out 1).trans rfl
            have zX2_ : W43.cell? ⟨gx, 2, none⟩ = some (.slice X2 h.f2.length x2_) := (blk_cell KX.out 2).trans rfl
            have zX3_ : W43.cell? ⟨gx, 3, none⟩ = some (.slice X3 h.f3.length x3_) := (blk_cell KX.out 3).trans rfl
            have hh3 := HPR.out.2.1
            have hl3 : h.f3.length = 1 := by rw [hh3]; rfl
            obtain ⟨A1, c1, A2', c2', A3, c3, he_, l1, h1, l2, h2, l3, h3⟩ := IX.out
            cases he_
            obtain ⟨a3, B1, d1, B2, d2, B3, d3, ea, p0, -, -, -, -⟩ := at_Ge h3 0 (by omega) (by omega)
            subst ea
            have hrd : (rd_Ge h.f3 0).f0 = k - 3 := by rw [hh3]; exact HPR.out.2.2
            rw [hrd, Int.toNat_zero] at p0
            rw [hl3] at *
            clear hh3 l1 h1 l2 h2 l3 h3 hrd hl3
            have p0' : W43.cell? a3 = some (.int .i64 (k - 3)) := by simpa [Addr.add] using p0
            clear p0
            go_wp2_with fail
            go_ret
            exact ⟨rfl, HB.out⟩
          · have HP1 := Aside0.mk hp1
            have hib := bad2 (k := k) (p := p) (by omega) (by omega)
            have hk4 : (k == 4) = false := beq_eq_false_iff_ne.2 hk.1
            have hk7 : (k == 7) = false := beq_eq_false_iff_ne.2 hk.2
            have hk7n : (k != 7) = true := bne_iff_ne.2 hk.2
            have hk7p : ¬ k = 7 := hk.2
            have hk4p : ¬ k = 4 := hk.1
            have hwk3 : IntKind.i64.wrap (k - 3) = k - 3 := by have := Hk.out; rw [IntKind.wrap_i64]; omega
            have hp1b : (p == 1) = false := beq_eq_false_iff_ne.2 hp1
            have hpk : (p == k - 3) = false := beq_eq_false_iff_ne.2 hp3
            have hpkp : ¬ p = k - 3 := hp3
            clear hk
            clear hp3
            clear hp1
            have HC := Aside0.mk (show 18 ≤ c ∧ kB.C wr A 18 (memC k (p)) from ⟨by omega, by unfold memC; rw [if_neg HP1.out]; have h9 := Kd.C_take (m := 18) (by rw [memB_len]; exact RB.out.2) (by rw [memB_len]; omega); rw [List.length_take, memB_len] at h9; exact h9⟩)
            have hml : (memC k (p)).length = 18 := by rw [memC_len, if_neg HP1.out]
            have HML := Aside0.mk hml
            clear hml
            have HPR := Aside0.mk (mem_bad Hk.out Hp.out hib)
            clear hib
            go_wp2_with fail
            have hpc := parse_err A c (memC k (p)) 2 65536 wr (10, 172) (by rw [HML.out]; exact HC.out.2) (by rw [HML.out]; exact HC.out.1) (by rw [HML.out]; omega) HPR.out
            rw [HML.out] at hpc
            refine (hpc).mono ?_
            rintro e W41 ⟨gep, rfl, hev_, hb_⟩
            have EP := Aside0.mk hev_
            clear hev_
            replace HB := Aside0.mk (below_step HB.out hb_)
            clear hb_
            clear hpc
            go_upto_region 14 with fail
            obtain ⟨gx, hgx_⟩ : ∃ x, x = W41.heap.size := ⟨_, rfl⟩
            obtain ⟨W42, hW42_⟩ : ∃ x, x = W41.alloc (.cells #[.int .i64 0, .slice none 0 0, .slice none 0 0, .slice none 0 0] 28) := ⟨_, rfl⟩
            rw [← hW42_, ← hgx_]
            have KX := Aside0.mk (show W42.heap[gx]? = some (.cells #[.int .i64 0, .slice none 0 0, .slice none 0 0, .slice none 0 0] 28 (0, 0)) by rw [hW42_, hgx_]; exact World.alloc_heap_new _ _)
            have hb_ : Below W41.heap.size W41 W42 := by rw [hW42_]; exact below_alloc (Below.refl _ _) _
            clear hW42_ hgx_
            replace HB := Aside0.mk (below_step HB.out hb_)
            replace EP := Aside0.mk (ErrV.below EP.out hb_)
            clear hb_
            have zX0_ : W42.cell? ⟨gx, 0, none⟩ = some (.int .i64 0) := (blk_cell KX.out 0).trans rfl
            have zX1_ : W42.cell? ⟨gx, 1, none⟩ = some (.slice none 0 0) := (blk_cell KX.out 1).trans rfl
            have zX2_ : W42.cell? ⟨gx, 2, none⟩ = some (.slice none 0 0) := (blk_cell KX.out 2).trans rfl
            have zX3_ : W42.cell? ⟨gx, 3, none⟩ = some (.slice none 0 0) := (blk_cell KX.out 3).trans rfl
            go_wp2_with fail
            clear zX0_ zX1_ zX2_ zX3_
            refine (alive_calls W42).mono ?_
            rintro e W43 ⟨rfl, hb_⟩
            replace HB := Aside0.mk (below_step HB.out hb_)
            replace EP := Aside0.mk (ErrV.below EP.out hb_)
            replace KX := Aside0.mk (blk_below KX.out hb_)
            clear hb_
            have zX0_ : W43.cell? ⟨gx, 0, none⟩ = some (.int .i64 0) := (blk_cell KX.out 0).trans rfl
            have zX1_ : W43.cell? ⟨gx, 1, none⟩ = some (.slice none 0 0) := (blk_cell KX.out 1).trans rfl
            have zX2_ : W43.cell? ⟨gx, 2, none⟩ = some (.slice none 0 0) := (blk_cell KX.out 2).trans rfl
            have zX3_ : W43.cell? ⟨gx, 3, none⟩ = some (.slice none 0 0) := (blk_cell KX.out 3).trans rfl
            go_wp2_with fail
            clear zX0_ zX1_ zX2_ zX3_
            refine (told_yes _ (some (10, 172)) _ W43 (Handle_below HH.out HB.out) EP.out (fun _ => ⟨code_ne (by decide), rfl⟩)).mono ?_
            rintro e W44 ⟨rfl, hb_⟩
            replace HB := Aside0.mk (below_step HB.out hb_)
            replace EP := Aside0.mk (ErrV.below EP.out hb_)
            replace KX := Aside0.mk (blk_below KX.out hb_)
            clear hb_
            have zX0_ : W44.cell? ⟨gx, 0, none⟩ = some (.int .i64 0) := (blk_cell KX.out 0).trans rfl
            have zX1_ : W44.cell? ⟨gx, 1, none⟩ = some (.slice none 0 0) := (blk_cell KX.out 1).trans rfl
            have zX2_ : W44.cell? ⟨gx, 2, none⟩ = some (.slice none 0 0) := (blk_cell KX.out 2).trans rfl
            have zX3_ : W44.cell? ⟨gx, 3, none⟩ = some (.slice none 0 0) := (blk_cell KX.out 3).trans rfl
            go_wp2_with fail
            go_ret
            exact ⟨rfl, HB.out⟩
end Go.Proofs.YtiiolhnpnlmkjaaDoor.Tree
namespace Go.Proofs.YtiiolhnpnlmkjaaDoor.Tree
open Go Go.RowKit Go.Proofs.YtiiolhnpnlmkjaaDoor.PWkbPrints Go.Proofs.YtiiolhnpnlmkjaaDoorW.PrintWords Go.Proofs.YtiiolhnpnlmkjaaDoorW.PrintLast Go.Proofs.YtiiolhnpnlmkjaaDoorW.PrintMore
theorem or_u32 (a b : Nat) (ha : a < 4294967296) (hb : b < 4294967296) : bits .or .u32 (a : Int) (b : Int) = ((a ||| b : Nat) : Int) := by
  have hx : a ||| b < 2 ^ 32 := Nat.or_lt_two_pow (by omega) (by omega)
  have h1 : (BitVec.ofInt 32 (a : Int)).toNat = a := by
    rw [BitVec.ofInt_natCast, BitVec.toNat_ofNat]; exact Nat.mod_eq_of_lt (by omega)
  have h2 : (BitVec.ofInt 32 (b : Int)).toNat = b := by
    rw [BitVec.ofInt_natCast, BitVec.toNat_ofNat]; exact Nat.mod_eq_of_lt (by omega)
  show IntKind.u32.wrap ((BitVec.ofInt 32 (a : Int) ||| BitVec.ofInt 32 (b : Int)).toNat : Int) = _
  rw [BitVec.toNat_or, h1, h2, IntKind.wrap_u32]
  omega
theorem or8 (n : Nat) (h : n < 4294967296) : ∃ m : Nat, bits .or .u32 (n : Int) 8 = (m : Int) ∧ 7 < m ∧ m < 4294967296 := by
  refine ⟨n ||| 8, or_u32 n 8 h (by decide), ?_, ?_⟩
  · have := @Nat.right_le_or n 8
    omega
  · exact Nat.or_lt_two_pow (n := 32) (by omega) (by decide)
theorem odd_byte (a : Int) : ∃ y : Int, IntKind.u8.wrap (IntKind.i64.wrap (2 + bits .and .i64 a 127)) = y ∧ 2 ≤ y ∧ y < 256 := by
  rw [i64_and127]
  refine ⟨_, rfl, ?_⟩
  rw [IntKind.wrap_i64, IntKind.wrap_u8]
  omega
/-- What Parse answers, whatever it is: a tree's value, and the error by what parsedR says. -/
theorem parse_any (A : Option Addr) (c : Nat) (b : List Int) (depth most : Int) (W : World) (hC : kB.C W A b.length b) (hc : b.length ≤ c) (hl : b.length ≤ 1048576) :
    Calls Tryd.prog 13 #[.slice A b.length c, .int .i64 depth, .int .i64 most] W fun e W' => ∃ k A1 n1 c1 A2 n2 c2 A3 n3 c3 ev, e = .returned (.tuple #[.agg #[.int .i64 k, .slice A1 n1 c1, .slice A2 n2 c2, .slice A3 n3 c3], ev]) ∧
      (∃ x, ErrV W' ev x ∧ ∀ y, x = some y → parsedR b depth most = .error y) ∧ (∀ y, parsedR b depth most = .error y → ErrV W' ev (some y)) ∧ Below W.heap.size W W' := by
  refine (parse_calls A c b depth most W hC hc hl).mono ?_
  rintro e W' ⟨u, ev, rfl, hb, hE, hO⟩
  rcases parsed_cases b depth most with ⟨p, k, h⟩ | ⟨g, os, h⟩
  · obtain ⟨rfl, hev⟩ := hE _ h
    exact ⟨_, _, _, _, _, _, _, _, _, _, _, rfl, ⟨some (p, k), hev, fun y hy => by cases hy; exact h⟩, (fun y hy => (hE y hy).2), hb⟩
  · obtain ⟨rfl, hcp⟩ := hO _ h
    obtain ⟨A1, c1, A2, c2, A3, c3, rfl, _⟩ := hcp.isG
    exact ⟨_, _, _, _, _, _, _, _, _, _, _, rfl, ⟨none, rfl, fun y hy => by cases hy⟩, (fun y hy => by rw [h] at hy; cases hy), hb⟩
end Go.Proofs.YtiiolhnpnlmkjaaDoor.Tree
namespace Go.Proofs.YtiiolhnpnlmkjaaDoor.Tree
open Go.RowKit Go.Proofs.YtiiolhnpnlmkjaaDoor.PWkbPrints Go.Proofs.YtiiolhnpnlmkjaaDoorW.PrintWords Go.Proofs.YtiiolhnpnlmkjaaDoorW.PrintLast Go.Proofs.YtiiolhnpnlmkjaaDoorW.PrintMore Go.Proofs.YtiiolhnpnlmkjaaDoor.PMk
attribute [local go_sem] Oper.semAt_some max2_int max_two min2_int min_two
set_option maxRecDepth 100000 in
set_option maxHeartbeats 32000000 in
theorem counts_calls (a0 : Int) (n : Nat) (A2 : Option Addr) (c2 : Nat) (X : List Int) (W : World) (hn : n < 4294967296) (hCX : kB.C W A2 X.length X) (hcX : X.length ≤ c2) (hBX : Byt X) (hh : Handle W) :
    Calls Tryd.prog 7 #[.int .i64 a0, .int .u32 (n : Int), .slice A2 X.length c2] W fun e W' => e = .returned (.bool true) ∧ Below W.heap.size W W' := by
  have hu := Tryd.underlying28
  have HH := Aside0.mk hh
  have HB := Aside0.mk (Below.refl W.heap.size W)
  have RX := Aside0.mk (And.intro hcX hCX)
  have HBX := Aside0.mk hBX
  have hwn : IntKind.i64.wrap (n : Int) = (n : Int) := by rw [IntKind.wrap_i64]; omega
  clear hh hCX hcX hBX
  go_enter Tryd.func7, Tryd.ntmps7
  go_wp2_with fail
  refine (members_calls a0 (n : Int) W HH.out).mono ?_
  rintro e W1 ⟨rfl, hb_⟩
  replace HB := Aside0.mk (below_step HB.out hb_)
  replace HH := Aside0.mk (Handle_below HH.out hb_)
  replace RX := Aside0.mk (And.intro RX.out.1 (Kd.C_below RX.out.2 hb_))
  clear hb_
  go_wp2_with fail
  refine (intoM_calls a0 6 (by omega) (by omega) W1).mono ?_
  rintro e W2 ⟨rfl, hb_⟩
  have hr_ := intoN_range a0 6 (by omega)
  obtain ⟨k, hk⟩ : ∃ z : Nat, (z : Int) = 2 + intoN a0 6 := ⟨(2 + intoN a0 6).toNat, by omega⟩
  have hk2 : 2 ≤ k := by omega
  have hk7 : k ≤ 7 := by omega
  have hw_ : IntKind.i64.wrap (2 + intoN a0 6) = (k : Int) := by rw [IntKind.wrap_i64]; omega
  clear hk hr_
  replace HB := Aside0.mk (below_step HB.out hb_)
  replace HH := Aside0.mk (Handle_below HH.out hb_)
  replace RX := Aside0.mk (And.intro RX.out.1 (Kd.C_below RX.out.2 hb_))
  clear hb_
  go_wp2_with fail
  clear hw_
  refine (cut_calls A2 c2 X W2 RX.out.2 RX.out.1).mono ?_
  rintro e W3 ⟨u, rfl, hR, hb_⟩
  obtain ⟨Y, hY⟩ : ∃ y, y = cutB X := ⟨_, rfl⟩
  have hYl : Y.length ≤ 1500 := by rw [hY]; exact cutB_len X
  have HYY := Aside0.mk (show Byt Y by rw [hY]; exact fun x hx => HBX.out x (List.mem_of_mem_take hx))
  rw [← hY] at hR
  clear hY
  obtain ⟨E, e, e2_⟩ := Kd.R_slice hR
  subst e2_
  have RY := Aside0.mk (Kd.R_reads' hR).2
  clear hR
  replace HB := Aside0.mk (below_step HB.out hb_)
  replace HH := Aside0.mk (Handle_below HH.out hb_)
  replace RX := Aside0.mk (And.intro RX.out.1 (Kd.C_below RX.out.2 hb_))
  clear hb_
  obtain ⟨ls, hls⟩ : ∃ z, z = leastN k := ⟨_, rfl⟩
  have hcl : (W3.alloc (.cells #[.int .i64 0, .int .i64 0, .int .i64 16, .int .i64 20, .int .i64 21, .int .i64 9, .int .i64 9, .int .i64 9] 3)).cell? ⟨W3.heap.size, k, none⟩ = some (.int .i64 (ls : Int)) := by
    have h9 := World.alloc_heap_new W3 (.cells #[.int .i64 0, .int .i64 0, .int .i64 16, .int .i64 20, .int .i64 21, .int .i64 9, .int .i64 9, .int .i64 9] 3)
    rw [hls]
    rcases (show k = 2 ∨ k = 3 ∨ k = 4 ∨ k = 5 ∨ k = 6 ∨ k = 7 by omega) with rfl | rfl | rfl | rfl | rfl | rfl <;> exact (blk_cell h9 _).trans rfl
  have hls2 : ls ≤ 21 := by rw [hls]; unfold leastN; split <;> (try split) <;> (try split) <;> omega
  have HLS := Aside0.mk hls
  have hk8 : (k : Int) < 8 := by omega
  clear hls
  go_wp2_with fail
  clear hcl
  obtain ⟨W4, hW4⟩ : ∃ z, z = W3.alloc (.cells #[.int .i64 0, .int .i64 0, .int .i64 16, .int .i64 20, .int .i64 21, .int .i64 9, .int .i64 9, .int .i64 9] 3) := ⟨_, rfl⟩
  rw [← hW4]
  have hb_ : Below W3.heap.size W3 W4 := by rw [hW4]; exact below_alloc (Below.refl _ _) _
  clear hW4
  replace HB := Aside0.mk (below_step HB.out hb_)
  replace HH := Aside0.mk (Handle_below HH.out hb_)
  replace RY := Aside0.mk (And.intro RY.out.1 (Kd.C_below RY.out.2 hb_))
  clear hb_
  obtain ⟨pr, hpr⟩ : ∃ z, z = n * ls := ⟨_, rfl⟩
  have hprl : pr ≤ 4294967296 * 21 := by rw [hpr]; exact Nat.mul_le_mul (by omega) hls2
  have hpi : (n : Int) * (ls : Int) = (pr : Int) := by rw [hpr, Int.natCast_mul]
  have hmul : wrap64 ((n : Int) * (ls : Int)) = (pr : Int) := by rw [hpi]; unfold wrap64; omega
  have hmul2 : IntKind.i64.wrap ((n : Int) * (ls : Int)) = (pr : Int) := by rw [hpi, IntKind.wrap_i64]; omega
  have HPR := Aside0.mk hpr
  have HMU := Aside0.mk (And.intro hmul hmul2)
  have HPL := Aside0.mk hprl
  clear hpr hpi hmul hmul2 hprl hls2
  have hwk : IntKind.u32.wrap (k : Int) = (k : Int) := by rw [IntKind.wrap_u32]; omega
  obtain ⟨m8, hm8, hm7, hm9⟩ := or8 n hn
  obtain ⟨y, hy, hy2, hy3⟩ := odd_byte a0
  obtain ⟨N, hN⟩ : ∃ N, N = 2 := ⟨_, rfl⟩
  have HN := Aside0.mk hN
  clear hN
  go_loopg [9] N (fun kq i wr => ∃ j : Nat, j + kq = N ∧ i = .int .i64 (j : Int) ∧ Aside0 (Below W4.heap.size W4 wr))
  case atStart => exact ⟨0, by omega, rfl, ⟨Below.refl _ _⟩⟩
  case round =>
    obtain ⟨j, hj, rfl, HF⟩ := hrel
    have HJ := Aside0.mk hj
    clear hj
    cases gk with
    | zero =>
      have hlt : ¬ ((j : Int) < 2) := by have := HJ.out; have := HN.out; omega
      go_wp2_with fail
      go_ret
      exact ⟨rfl, below_step HB.out HF.out⟩
    | succ kq =>
      rcases (show j = 0 ∨ j = 1 by have := HJ.out; have := HN.out; omega) with rfl | rfl
      · have HHr := Aside0.mk (Handle_below HH.out HF.out)
        have RYr := Aside0.mk (And.intro RY.out.1 (Kd.C_below RY.out.2 HF.out))
        go_wp2_with fail
        refine (put32_row _ [0] (k : Int) false wr _ (byte_row wr wr 0 (Below.refl _ _)) (below_alloc (Below.refl _ _) _) (by simp)).mono ?_
        rintro e w1 ⟨u1, rfl, hr1, hb1⟩
        have R1 := Aside0.mk (And.intro hr1 hb1)
        clear hr1 hb1
        go_wp2_with fail
        refine (put32_row _ _ (n : Int) false wr _ R1.out.1 R1.out.2 (by rw [List.length_append, P32_len]; simp)).mono ?_
        rintro e w2 ⟨u2, rfl, hr2, hb2⟩
        have R2 := Aside0.mk (And.intro hr2 hb2)
        clear hr2 hb2 R1
        go_wp2_with ((with_reducible refine gate_builtin (b := .append) (xs := #[.tmp 55, .tmp 56]) rfl ?_); at_builtin; refine Kd.R_append_rows (Kd.int .u8) (w0 := wr) wr.heap.size rfl (.tmp 55) (.tmp 56) 22 5 (.int .u8 0) 1 rfl Tryd.underlying22 info5b rfl (by decide) (by omega) u2 ([0] ++ P32 (k : Int) false ++ P32 (n : Int) false) (Y) E (Y).length e (fun _ => True) (fun _ => False) rfl rfl ?aO ?aR (fun _ _ h => h) (fun _ h => h.elim) ?aF ?aB ?aS ?aL ?_; (case aO => exact R2.out.1); (case aR => exact (Kd.C_below RYr.out.2 R2.out.2)); (case aF => exact (fun _ _ => trivial)); (case aB => exact R2.out.2); (case aS => exact (R2.out.2).size); (case aL => (simp only [List.length_append, P32_len, List.length_singleton]; omega)); intro v57 w57 ho57 hb57 hg57 hat57; have O57 := Aside0.mk (And.intro ho57 hb57); clear ho57 hb57 hg57 hat57)
        obtain ⟨B, hBd⟩ : ∃ z, z = cntB false (k : Int) (n : Int) Y := ⟨_, rfl⟩
        have hBe : [0] ++ P32 (k : Int) false ++ P32 (n : Int) false ++ Y = B := by rw [hBd]; unfold cntB bitB; simp only [List.append_assoc]; rfl
        have hBl : B.length = 9 + Y.length := by rw [hBd]; exact cntB_len _ _ _ _
        have hR := O57.out.1
        have hb_ := O57.out.2
        rw [hBe] at hR
        obtain ⟨gB, d, e2_, -, -, -⟩ := Kd.R_form hR (by omega)
        subst e2_
        have RB := Aside0.mk (Kd.R_reads' hR).2
        have HB57 := Aside0.mk hb_
        have HBD := Aside0.mk (And.intro hBd hBl)
        have hbl : B.length ≤ 1600 := by omega
        have hb9 : 9 ≤ B.length := by omega
        have hbe : IntKind.i64.wrap (9 + (Y.length : Int)) = (B.length : Int) := by rw [IntKind.wrap_i64]; omega
        have HBE := Aside0.mk hbe
        clear hR hb_ hBe hBd hBl hbe O57 R2
        refine (parse_any (some ⟨gB, 0, none⟩) d B 256 65536 w57 RB.out.2 RB.out.1 (by omega)).mono ?_
        rintro e W21 ⟨zk, Z1, m1, z1, Z2, m2, z2, Z3, m3, z3, ev, rfl, hx_, hE_, hb_⟩
        obtain ⟨ex, hev, hxe⟩ := hx_
        have EV := Aside0.mk (show ∃ x, ErrV W21 ev x ∧ (Y.length < pr → x = some (5, 173)) ∧ (pr ≤ Y.length → ∀ a, x = some (a, 173) → a ≠ 5) from by
          obtain ⟨h1, h2⟩ := cnt_parsed false k n Y ⟨hk2, hk7⟩ hn HYY.out hYl
          rw [← HBD.out.1, ← HLS.out, ← HPR.out] at h1 h2
          by_cases hbg : Y.length < pr
          · exact ⟨_, hE_ _ (h1 hbg), fun _ => rfl, fun h => by omega⟩
          · exact ⟨ex, hev, fun h => absurd h hbg, fun h a ha e5 => by
              have := h2 h _ _ (hxe _ ha)
              omega⟩)
        clear hev hxe hE_
        replace RB := Aside0.mk (And.intro RB.out.1 (Kd.C_below RB.out.2 hb_))
        replace HB57 := Aside0.mk (below_step HB57.out hb_)
        clear hb_
        obtain ⟨ex, hev_, hx1_, hx2_⟩ := EV.out
        have EP := Aside0.mk hev_
        have HX := Aside0.mk (And.intro hx1_ hx2_)
        clear hev_ hx1_ hx2_ EV
        go_upto_region 14 with fail
        obtain ⟨gp, hgp_⟩ : ∃ x, x = W21.heap.size := ⟨_, rfl⟩
        obtain ⟨W22, hW22_⟩ : ∃ x, x = W21.alloc (.cells #[.int .i64 zk, .slice Z1 m1 z1, .slice Z2 m2 z2, .slice Z3 m3 z3] 28) := ⟨_, rfl⟩
        rw [← hW22_, ← hgp_]
        have KP := Aside0.mk (show W22.heap[gp]? = some (.cells #[.int .i64 zk, .slice Z1 m1 z1, .slice Z2 m2 z2, .slice Z3 m3 z3] 28 (0, 0)) by rw [hW22_, hgp_]; exact World.alloc_heap_new _ _)
        have hb_ : Below W21.heap.size W21 W22 := by rw [hW22_]; exact below_alloc (Below.refl _ _) _
        clear hW22_ hgp_
        replace RB := Aside0.mk (And.intro RB.out.1 (Kd.C_below RB.out.2 hb_))
        replace HB57 := Aside0.mk (below_step HB57.out hb_)
        replace EP := Aside0.mk (ErrV.below EP.out hb_)
        clear hb_
        have hbe := HBE.out
        go_wp2_with fail
        clear hbe
        refine (alive_calls W22).mono ?_
        rintro e W23 ⟨rfl, hb_⟩
        replace RB := Aside0.mk (And.intro RB.out.1 (Kd.C_below RB.out.2 hb_))
        replace HB57 := Aside0.mk (below_step HB57.out hb_)
        replace EP := Aside0.mk (ErrV.below EP.out hb_)
        replace KP := Aside0.mk (blk_below KP.out hb_)
        clear hb_
        have hbe := HBE.out
        go_upto_region 16 with fail
        clear hbe
        have hmul := HMU.out.1
        have hmul2 := HMU.out.2
        go_cut [84] from 73 to 83 (fun v wx => v = .bool false ∧ Below W23.heap.size W23 wx)
        case first =>
          have HQ := Aside0.mk (Below.refl W23.heap.size W23)
          by_cases hbg : Y.length < pr
          · have hbg2 : (Y.length : Int) < (pr : Int) := by omega
            obtain rfl := HX.out.1 hbg
            go_wp2_with fail
            refine (told_yes _ (some ((5 : Int), (173 : Int))) _ W23 (Handle_below HHr.out HB57.out) EP.out (fun _ => ⟨code_ne (by decide), rfl⟩)).mono ?_
            rintro e W24 ⟨rfl, hb_⟩
            replace RB := Aside0.mk (And.intro RB.out.1 (Kd.C_below RB.out.2 hb_))
            replace HB57 := Aside0.mk (below_step HB57.out hb_)
            replace EP := Aside0.mk (ErrV.below EP.out hb_)
            replace KP := Aside0.mk (blk_below KP.out hb_)
            replace HQ := Aside0.mk (below_step HQ.out hb_)
            clear hb_
            go_wp2_with fail
            go_meet
            exact ⟨rfl, HQ.out⟩
          · have hbg2 : ¬ ((Y.length : Int) < (pr : Int)) := by omega
            go_wp2_with fail
            go_meet
            exact ⟨rfl, HQ.out⟩
        case rest =>
        obtain ⟨rfl, hb_⟩ := hcut
        replace RB := Aside0.mk (And.intro RB.out.1 (Kd.C_below RB.out.2 hb_))
        replace HB57 := Aside0.mk (below_step HB57.out hb_)
        replace EP := Aside0.mk (ErrV.below EP.out hb_)
        replace KP := Aside0.mk (blk_below KP.out hb_)
        clear hb_
        go_upto_region 18 with fail
        go_cut [95] from 85 to 94 (fun v wx => v = .bool false ∧ Below wc.heap.size wc wx)
        case first =>
          have HQ := Aside0.mk (Below.refl wc.heap.size wc)
          by_cases hbg : Y.length < pr
          · have hbg2 : ¬ ((pr : Int) ≤ (Y.length : Int)) := by omega
            have hbg3 : (Y.length : Int) < (pr : Int) := by omega
            go_wp2_with fail
            go_meet
            exact ⟨rfl, HQ.out⟩
          · have hbg2 : (pr : Int) ≤ (Y.length : Int) := by omega
            have HX2 := Aside0.mk (HX.out.2 (by omega))
            go_wp2_with fail
            refine (told_no _ ex 173 5 wc (Handle_below HHr.out HB57.out) EP.out (by decide) HX2.out).mono ?_
            rintro e W24 ⟨rfl, hb_⟩
            replace RB := Aside0.mk (And.intro RB.out.1 (Kd.C_below RB.out.2 hb_))
            replace HB57 := Aside0.mk (below_step HB57.out hb_)
            replace EP := Aside0.mk (ErrV.below EP.out hb_)
            replace KP := Aside0.mk (blk_below KP.out hb_)
            replace HQ := Aside0.mk (below_step HQ.out hb_)
            clear hb_
            go_wp2_with fail
            go_meet
            exact ⟨rfl, HQ.out⟩
        case rest =>
        obtain ⟨rfl, hb_⟩ := hcut
        replace RB := Aside0.mk (And.intro RB.out.1 (Kd.C_below RB.out.2 hb_))
        replace HB57 := Aside0.mk (below_step HB57.out hb_)
        replace EP := Aside0.mk (ErrV.below EP.out hb_)
        replace KP := Aside0.mk (blk_below KP.out hb_)
        clear hb_
        clear EP HX KP
        go_upto_region 20 with fail
        clear hmul hmul2
        have hBc : B.length ≤ d := RB.out.1
        have hd1 : (1 : Int) ≤ (d : Int) := by omega
        have hd2 : ¬ d = 1 := by omega
        have hd2b : (1 : Int) < (d : Int) := by omega
        have hd1b : (1 : Int) ≤ (B.length : Int) := by omega
        have hyw : wrap64 (2 + Go.bits .and .i64 a0 127) % 256 = y := by rw [← hy, IntKind.wrap_u8, IntKind.wrap_i64]; unfold wrap64; omega
        have hdr : kB.C wc (some ⟨gB, 1, none⟩) (B.length - 1) (B.drop 1) := by
          have h9 := Kd.C_drop (m := 1) RB.out.2 (by omega) RB.out.1
          rw [if_neg hd2, List.length_drop] at h9
          exact h9
        have HDR := Aside0.mk hdr
        clear hdr
        go_upto_region 21 with ((with_reducible refine gate_builtin (b := .append) (xs := #[.tmp 100, .tmp 102]) rfl ?_); at_builtin; refine Kd.R_append_rows (Kd.int .u8) (w0 := wr) wr.heap.size rfl (.tmp 100) (.tmp 102) 22 5 (.int .u8 0) 1 rfl Tryd.underlying22 info5b rfl (by decide) (by omega) (.slice (some ⟨wc.heap.size, 0, none⟩) 1 1) ([y]) (B.drop 1) (some ⟨gB, 1, none⟩) (B.length - 1) (d - 1) (fun _ => True) (fun _ => False) rfl rfl ?aO ?aR (fun _ _ h => h) (fun _ h => h.elim) ?aF ?aB ?aS ?aL ?_; (case aO => exact byte_row wr wc y HB57.out); (case aR => exact (Kd.C_alloc HDR.out _)); (case aF => exact (fun _ _ => trivial)); (case aB => exact (below_alloc HB57.out _)); (case aS => exact ((below_alloc HB57.out _)).size); (case aL => (simp only [List.length_drop, List.length_singleton]; omega)); intro v103 w103 ho103 hb103 hg103 hat103; have O103 := Aside0.mk (And.intro ho103 hb103); clear ho103 hb103 hg103 hat103)
        have hR := O103.out.1
        rw [List.singleton_append] at hR
        have hb_ := O103.out.2
        obtain ⟨OD, hOD⟩ : ∃ z, z = y :: B.drop 1 := ⟨_, rfl⟩
        have hodp : parsedR OD 256 65536 = .error (0, 170) := by rw [hOD]; exact odd_parsed y (B.drop 1) ⟨hy2, hy3⟩ (by rw [List.length_drop]; omega)
        have hodl : OD.length = B.length := by rw [hOD, List.length_cons, List.length_drop]; omega
        rw [← hOD] at hR
        obtain ⟨DO, dO, e2_⟩ := Kd.R_slice hR
        subst e2_
        have RO := Aside0.mk (Kd.R_reads' hR).2
        have HODL := Aside0.mk hodl
        have HBo := Aside0.mk hb_
        clear hR hb_ hOD O103 HDR hyw hd1 hd2 hd2b hd1b hBc HB57 RB hodl
        go_wp2_with fail
        refine (parse_err DO dO OD 256 65536 w103 (0, 170) RO.out.2 RO.out.1 (by have := HODL.out; omega) hodp).mono ?_
        rintro e W24 ⟨ge1, rfl, hev_, hb_⟩
        have EV1 := Aside0.mk hev_
        clear hev_
        replace RO := Aside0.mk (And.intro RO.out.1 (Kd.C_below RO.out.2 hb_))
        replace HBo := Aside0.mk (below_step HBo.out hb_)
        clear hb_
        go_upto_region 22 with fail
        obtain ⟨gp1, hgp1_⟩ : ∃ x, x = W24.heap.size := ⟨_, rfl⟩
        obtain ⟨W25, hW25_⟩ : ∃ x, x = W24.alloc (.cells #[.int .i64 0, .slice none 0 0, .slice none 0 0, .slice none 0 0] 28) := ⟨_, rfl⟩
        rw [← hW25_, ← hgp1_]
        have KP1 := Aside0.mk (show W25.heap[gp1]? = some (.cells #[.int .i64 0, .slice none 0 0, .slice none 0 0, .slice none 0 0] 28 (0, 0)) by rw [hW25_, hgp1_]; exact World.alloc_heap_new _ _)
        have hb_ : Below W24.heap.size W24 W25 := by rw [hW25_]; exact below_alloc (Below.refl _ _) _
        clear hW25_ hgp1_
        replace RO := Aside0.mk (And.intro RO.out.1 (Kd.C_below RO.out.2 hb_))
        replace HBo := Aside0.mk (below_step HBo.out hb_)
        replace EV1 := Aside0.mk (ErrV.below EV1.out hb_)
        clear hb_
        clear KP1
        have hm8b := hm8
        go_wp2_with fail
        refine (put32_row _ [0] (m8 : Int) false W25 _ (byte_row W25 W25 0 (Below.refl _ _)) (below_alloc (Below.refl _ _) _) (by simp)).mono ?_
        rintro e w17 ⟨u17, rfl, hR, hb_⟩
        obtain ⟨NB, hNB⟩ : ∃ z, z = bitB false ++ P32 (m8 : Int) false := ⟨_, rfl⟩
        have hnp := none_parsed false m8 ⟨hm7, hm9⟩
        have hnl : NB.length = 5 := by rw [hNB, List.length_append, P32_len]; rfl
        rw [← hNB] at hnp
        rw [show ([0] ++ P32 (m8 : Int) false : List Int) = NB from hNB.symm] at hR
        obtain ⟨gN, dN, e2_, -, -, -⟩ := Kd.R_form hR (by omega)
        subst e2_
        have RN := Aside0.mk (Kd.R_reads' hR).2
        have HNP := Aside0.mk (And.intro hnp hnl)
        have hnd : (3 : Int) ≤ (dN : Int) := by have := RN.out.1; omega
        clear hR hNB hnp
        replace RO := Aside0.mk (And.intro RO.out.1 (Kd.C_below RO.out.2 hb_))
        replace HBo := Aside0.mk (below_step HBo.out hb_)
        replace EV1 := Aside0.mk (ErrV.below EV1.out hb_)
        clear hb_
        rw [hnl]
        have hnl3 : (NB.take 3).length = 3 := by rw [List.length_take, hnl]; rfl
        have HN3 := Aside0.mk hnl3
        clear hnl hnl3
        go_wp2_with fail
        have hpc := parse_err (some ⟨gN, 0, none⟩) dN NB 256 65536 w17 (1, 171) RN.out.2 RN.out.1 (by rw [HNP.out.2]; omega) HNP.out.1.1
        rw [HNP.out.2] at hpc
        refine (hpc).mono ?_
        rintro e W26 ⟨ge2, rfl, hev_, hb_⟩
        have EV2 := Aside0.mk hev_
        clear hev_
        replace RO := Aside0.mk (And.intro RO.out.1 (Kd.C_below RO.out.2 hb_))
        replace HBo := Aside0.mk (below_step HBo.out hb_)
        replace EV1 := Aside0.mk (ErrV.below EV1.out hb_)
        replace RN := Aside0.mk (And.intro RN.out.1 (Kd.C_below RN.out.2 hb_))
        clear hb_
        clear hpc
        go_upto_region 24 with fail
        obtain ⟨gp2, hgp2_⟩ : ∃ x, x = W26.heap.size := ⟨_, rfl⟩
        obtain ⟨W27, hW27_⟩ : ∃ x, x = W26.alloc (.cells #[.int .i64 0, .slice none 0 0, .slice none 0 0, .slice none 0 0] 28) := ⟨_, rfl⟩
        rw [← hW27_, ← hgp2_]
        have KP2 := Aside0.mk (show W27.heap[gp2]? = some (.cells #[.int .i64 0, .slice none 0 0, .slice none 0 0, .slice none 0 0] 28 (0, 0)) by rw [hW27_, hgp2_]; exact World.alloc_heap_new _ _)
        have hb_ : Below W26.heap.size W26 W27 := by rw [hW27_]; exact below_alloc (Below.refl _ _) _
        clear hW27_ hgp2_
        replace RO := Aside0.mk (And.intro RO.out.1 (Kd.C_below RO.out.2 hb_))
        replace HBo := Aside0.mk (below_step HBo.out hb_)
        replace EV1 := Aside0.mk (ErrV.below EV1.out hb_)
        replace RN := Aside0.mk (And.intro RN.out.1 (Kd.C_below RN.out.2 hb_))
        replace EV2 := Aside0.mk (ErrV.below EV2.out hb_)
        clear hb_
        clear KP2
        go_wp2_with fail
        have hpc := parse_err (some ⟨gN, 0, none⟩) dN (NB.take 3) 256 65536 W27 (1, 160) (Kd.C_take RN.out.2 (by rw [HNP.out.2]; omega)) (by rw [HN3.out]; omega) (by rw [HN3.out]; omega) HNP.out.1.2
        rw [HN3.out] at hpc
        refine (hpc).mono ?_
        rintro e W28 ⟨ge3, rfl, hev_, hb_⟩
        have EV3 := Aside0.mk hev_
        clear hev_
        replace RO := Aside0.mk (And.intro RO.out.1 (Kd.C_below RO.out.2 hb_))
        replace HBo := Aside0.mk (below_step HBo.out hb_)
        replace EV1 := Aside0.mk (ErrV.below EV1.out hb_)
        replace RN := Aside0.mk (And.intro RN.out.1 (Kd.C_below RN.out.2 hb_))
        replace EV2 := Aside0.mk (ErrV.below EV2.out hb_)
        clear hb_
        clear hpc
        go_upto_region 25 with fail
        obtain ⟨gp3, hgp3_⟩ : ∃ x, x = W28.heap.size := ⟨_, rfl⟩
        obtain ⟨W29, hW29_⟩ : ∃ x, x = W28.alloc (.cells #[.int .i64 0, .slice none 0 0, .slice none 0 0, .slice none 0 0] 28) := ⟨_, rfl⟩
        rw [← hW29_, ← hgp3_]
        have KP3 := Aside0.mk (show W29.heap[gp3]? = some (.cells #[.int .i64 0, .slice none 0 0, .slice none 0 0, .slice none 0 0] 28 (0, 0)) by rw [hW29_, hgp3_]; exact World.alloc_heap_new _ _)
        have hb_ : Below W28.heap.size W28 W29 := by rw [hW29_]; exact below_alloc (Below.refl _ _) _
        clear hW29_ hgp3_
        replace RO := Aside0.mk (And.intro RO.out.1 (Kd.C_below RO.out.2 hb_))
        replace HBo := Aside0.mk (below_step HBo.out hb_)
        replace EV1 := Aside0.mk (ErrV.below EV1.out hb_)
        replace RN := Aside0.mk (And.intro RN.out.1 (Kd.C_below RN.out.2 hb_))
        replace EV2 := Aside0.mk (ErrV.below EV2.out hb_)
        replace EV3 := Aside0.mk (ErrV.below EV3.out hb_)
        clear hb_
        clear KP3
        go_wp2_with fail
        refine (parse_err none 0 [] 256 65536 W29 (0, 160) (Kd.C_nil _ _) (Nat.le_refl _) (by simp) nil_parsed).mono ?_
        rintro e W30 ⟨ge4, rfl, hev_, hb_⟩
        have EV4 := Aside0.mk hev_
        clear hev_
        replace RO := Aside0.mk (And.intro RO.out.1 (Kd.C_below RO.out.2 hb_))
        replace HBo := Aside0.mk (below_step HBo.out hb_)
        replace EV1 := Aside0.mk (ErrV.below EV1.out hb_)
        replace RN := Aside0.mk (And.intro RN.out.1 (Kd.C_below RN.out.2 hb_))
        replace EV2 := Aside0.mk (ErrV.below EV2.out hb_)
        replace EV3 := Aside0.mk (ErrV.below EV3.out hb_)
        clear hb_
        go_upto_region 26 with fail
        obtain ⟨gp4, hgp4_⟩ : ∃ x, x = W30.heap.size := ⟨_, rfl⟩
        obtain ⟨W31, hW31_⟩ : ∃ x, x = W30.alloc (.cells #[.int .i64 0, .slice none 0 0, .slice none 0 0, .slice none 0 0] 28) := ⟨_, rfl⟩
        rw [← hW31_, ← hgp4_]
        have KP4 := Aside0.mk (show W31.heap[gp4]? = some (.cells #[.int .i64 0, .slice none 0 0, .slice none 0 0, .slice none 0 0] 28 (0, 0)) by rw [hW31_, hgp4_]; exact World.alloc_heap_new _ _)
        have hb_ : Below W30.heap.size W30 W31 := by rw [hW31_]; exact below_alloc (Below.refl _ _) _
        clear hW31_ hgp4_
        replace RO := Aside0.mk (And.intro RO.out.1 (Kd.C_below RO.out.2 hb_))
        replace HBo := Aside0.mk (below_step HBo.out hb_)
        replace EV1 := Aside0.mk (ErrV.below EV1.out hb_)
        replace RN := Aside0.mk (And.intro RN.out.1 (Kd.C_below RN.out.2 hb_))
        replace EV2 := Aside0.mk (ErrV.below EV2.out hb_)
        replace EV3 := Aside0.mk (ErrV.below EV3.out hb_)
        replace EV4 := Aside0.mk (ErrV.below EV4.out hb_)
        clear hb_
        clear KP4
        go_wp2_with fail
        refine (told_yes _ (some ((0 : Int), (170 : Int))) _ W31 (Handle_below HHr.out HBo.out) EV1.out (fun _ => ⟨code_ne (by decide), rfl⟩)).mono ?_
        rintro e W32 ⟨rfl, hb_⟩
        replace RO := Aside0.mk (And.intro RO.out.1 (Kd.C_below RO.out.2 hb_))
        replace HBo := Aside0.mk (below_step HBo.out hb_)
        replace EV1 := Aside0.mk (ErrV.below EV1.out hb_)
        replace RN := Aside0.mk (And.intro RN.out.1 (Kd.C_below RN.out.2 hb_))
        replace EV2 := Aside0.mk (ErrV.below EV2.out hb_)
        replace EV3 := Aside0.mk (ErrV.below EV3.out hb_)
        replace EV4 := Aside0.mk (ErrV.below EV4.out hb_)
        clear hb_
        go_wp2_with fail
        refine (told_yes _ (some ((1 : Int), (171 : Int))) _ W32 (Handle_below HHr.out HBo.out) EV2.out (fun _ => ⟨code_ne (by decide), rfl⟩)).mono ?_
        rintro e W33 ⟨rfl, hb_⟩
        replace RO := Aside0.mk (And.intro RO.out.1 (Kd.C_below RO.out.2 hb_))
        replace HBo := Aside0.mk (below_step HBo.out hb_)
        replace EV1 := Aside0.mk (ErrV.below EV1.out hb_)
        replace RN := Aside0.mk (And.intro RN.out.1 (Kd.C_below RN.out.2 hb_))
        replace EV2 := Aside0.mk (ErrV.below EV2.out hb_)
        replace EV3 := Aside0.mk (ErrV.below EV3.out hb_)
        replace EV4 := Aside0.mk (ErrV.below EV4.out hb_)
        clear hb_
        go_wp2_with fail
        refine (told_yes _ (some ((1 : Int), (160 : Int))) _ W33 (Handle_below HHr.out HBo.out) EV3.out (fun _ => ⟨code_ne (by decide), rfl⟩)).mono ?_
        rintro e W34 ⟨rfl, hb_⟩
        replace RO := Aside0.mk (And.intro RO.out.1 (Kd.C_below RO.out.2 hb_))
        replace HBo := Aside0.mk (below_step HBo.out hb_)
        replace EV1 := Aside0.mk (ErrV.below EV1.out hb_)
        replace RN := Aside0.mk (And.intro RN.out.1 (Kd.C_below RN.out.2 hb_))
        replace EV2 := Aside0.mk (ErrV.below EV2.out hb_)
        replace EV3 := Aside0.mk (ErrV.below EV3.out hb_)
        replace EV4 := Aside0.mk (ErrV.below EV4.out hb_)
        clear hb_
        go_wp2_with fail
        refine (told_yes _ (some ((0 : Int), (160 : Int))) _ W34 (Handle_below HHr.out HBo.out) EV4.out (fun _ => ⟨code_ne (by decide), rfl⟩)).mono ?_
        rintro e W35 ⟨rfl, hb_⟩
        replace RO := Aside0.mk (And.intro RO.out.1 (Kd.C_below RO.out.2 hb_))
        replace HBo := Aside0.mk (below_step HBo.out hb_)
        replace EV1 := Aside0.mk (ErrV.below EV1.out hb_)
        replace RN := Aside0.mk (And.intro RN.out.1 (Kd.C_below RN.out.2 hb_))
        replace EV2 := Aside0.mk (ErrV.below EV2.out hb_)
        replace EV3 := Aside0.mk (ErrV.below EV3.out hb_)
        replace EV4 := Aside0.mk (ErrV.below EV4.out hb_)
        clear hb_
        go_wp2_with fail
        go_roundg kq
        case measure => omega
        case rel => exact ⟨1, by have := HJ.out; omega, by go_num, ⟨below_step HF.out HBo.out⟩⟩
      · have HHr := Aside0.mk (Handle_below HH.out HF.out)
        have RYr := Aside0.mk (And.intro RY.out.1 (Kd.C_below RY.out.2 HF.out))
        go_wp2_with fail
        refine (put32_row _ [1] (k : Int) true wr _ (byte_row wr wr 1 (Below.refl _ _)) (below_alloc (Below.refl _ _) _) (by simp)).mono ?_
        rintro e w1 ⟨u1, rfl, hr1, hb1⟩
        have R1 := Aside0.mk (And.intro hr1 hb1)
        clear hr1 hb1
        go_wp2_with fail
        refine (put32_row _ _ (n : Int) true wr _ R1.out.1 R1.out.2 (by rw [List.length_append, P32_len]; simp)).mono ?_
        rintro e w2 ⟨u2, rfl, hr2, hb2⟩
        have R2 := Aside0.mk (And.intro hr2 hb2)
        clear hr2 hb2 R1
        go_wp2_with ((with_reducible refine gate_builtin (b := .append) (xs := #[.tmp 55, .tmp 56]) rfl ?_); at_builtin; refine Kd.R_append_rows (Kd.int .u8) (w0 := wr) wr.heap.size rfl (.tmp 55) (.tmp 56) 22 5 (.int .u8 0) 1 rfl Tryd.underlying22 info5b rfl (by decide) (by omega) u2 ([1] ++ P32 (k : Int) true ++ P32 (n : Int) true) (Y) E (Y).length e (fun _ => True) (fun _ => False) rfl rfl ?aO ?aR (fun _ _ h => h) (fun _ h => h.elim) ?aF ?aB ?aS ?aL ?_; (case aO => exact R2.out.1); (case aR => exact (Kd.C_below RYr.out.2 R2.out.2)); (case aF => exact (fun _ _ => trivial)); (case aB => exact R2.out.2); (case aS => exact (R2.out.2).size); (case aL => (simp only [List.length_append, P32_len, List.length_singleton]; omega)); intro v57 w57 ho57 hb57 hg57 hat57; have O57 := Aside0.mk (And.intro ho57 hb57); clear ho57 hb57 hg57 hat57)
        obtain ⟨B, hBd⟩ : ∃ z, z = cntB true (k : Int) (n : Int) Y := ⟨_, rfl⟩
        have hBe : [1] ++ P32 (k : Int) true ++ P32 (n : Int) true ++ Y = B := by rw [hBd]; unfold cntB bitB; simp only [List.append_assoc]; rfl
        have hBl : B.length = 9 + Y.length := by rw [hBd]; exact cntB_len _ _ _ _
        have hR := O57.out.1
        have hb_ := O57.out.2
        rw [hBe] at hR
        obtain ⟨gB, d, e2_, -, -, -⟩ := Kd.R_form hR (by omega)
        subst e2_
        have RB := Aside0.mk (Kd.R_reads' hR).2
        have HB57 := Aside0.mk hb_
        have HBD := Aside0.mk (And.intro hBd hBl)
        have hbl : B.length ≤ 1600 := by omega
        have hb9 : 9 ≤ B.length := by omega
        have hbe : IntKind.i64.wrap (9 + (Y.length : Int)) = (B.length : Int) := by rw [IntKind.wrap_i64]; omega
        have HBE := Aside0.mk hbe
        clear hR hb_ hBe hBd hBl hbe O57 R2
        refine (parse_any (some ⟨gB, 0, none⟩) d B 256 65536 w57 RB.out.2 RB.out.1 (by omega)).mono ?_
        rintro e W21 ⟨zk, Z1, m1, z1, Z2, m2, z2, Z3, m3, z3, ev, rfl, hx_, hE_, hb_⟩
        obtain ⟨ex, hev, hxe⟩ := hx_
        have EV := Aside0.mk (show ∃ x, ErrV W21 ev x ∧ (Y.length < pr → x = some (5, 173)) ∧ (pr ≤ Y.length → ∀ a, x = some (a, 173) → a ≠ 5) from by
          obtain ⟨h1, h2⟩ := cnt_parsed true k n Y ⟨hk2, hk7⟩ hn HYY.out hYl
          rw [← HBD.out.1, ← HLS.out, ← HPR.out] at h1 h2
          by_cases hbg : Y.length < pr
          · exact ⟨_, hE_ _ (h1 hbg), fun _ => rfl, fun h => by omega⟩
          · exact ⟨ex, hev, fun h => absurd h hbg, fun h a ha e5 => by
              have := h2 h _ _ (hxe _ ha)
              omega⟩)
        clear hev hxe hE_
        replace RB := Aside0.mk (And.intro RB.out.1 (Kd.C_below RB.out.2 hb_))
        replace HB57 := Aside0.mk (below_step HB57.out hb_)
        clear hb_
        obtain ⟨ex, hev_, hx1_, hx2_⟩ := EV.out
        have EP := Aside0.mk hev_
        have HX := Aside0.mk (And.intro hx1_ hx2_)
        clear hev_ hx1_ hx2_ EV
        go_upto_region 14 with fail
        obtain ⟨gp, hgp_⟩ : ∃ x, x = W21.heap.size := ⟨_, rfl⟩
        obtain ⟨W22, hW22_⟩ : ∃ x, x = W21.alloc (.cells #[.int .i64 zk, .slice Z1 m1 z1, .slice Z2 m2 z2, .slice Z3 m3 z3] 28) := ⟨_, rfl⟩
        rw [← hW22_, ← hgp_]
        have KP := Aside0.mk (show W22.heap[gp]? = some (.cells #[.int .i64 zk, .slice Z1 m1 z1, .slice Z2 m2 z2, .slice Z3 m3 z3] 28 (0, 0)) by rw [hW22_, hgp_]; exact World.alloc_heap_new _ _)
        have hb_ : Below W21.heap.size W21 W22 := by rw [hW22_]; exact below_alloc (Below.refl _ _) _
        clear hW22_ hgp_
        replace RB := Aside0.mk (And.intro RB.out.1 (Kd.C_below RB.out.2 hb_))
        replace HB57 := Aside0.mk (below_step HB57.out hb_)
        replace EP := Aside0.mk (ErrV.below EP.out hb_)
        clear hb_
        have hbe := HBE.out
        go_wp2_with fail
        clear hbe
        refine (alive_calls W22).mono ?_
        rintro e W23 ⟨rfl, hb_⟩
        replace RB := Aside0.mk (And.intro RB.out.1 (Kd.C_below RB.out.2 hb_))
        replace HB57 := Aside0.mk (below_step HB57.out hb_)
        replace EP := Aside0.mk (ErrV.below EP.out hb_)
        replace KP := Aside0.mk (blk_below KP.out hb_)
        clear hb_
        have hbe := HBE.out
        go_upto_region 16 with fail
        clear hbe
        have hmul := HMU.out.1
        have hmul2 := HMU.out.2
        go_cut [84] from 73 to 83 (fun v wx => v = .bool false ∧ Below W23.heap.size W23 wx)
        case first =>
          have HQ := Aside0.mk (Below.refl W23.heap.size W23)
          by_cases hbg : Y.length < pr
          · have hbg2 : (Y.length : Int) < (pr : Int) := by omega
            obtain rfl := HX.out.1 hbg
            go_wp2_with fail
            refine (told_yes _ (some ((5 : Int), (173 : Int))) _ W23 (Handle_below HHr.out HB57.out) EP.out (fun _ => ⟨code_ne (by decide), rfl⟩)).mono ?_
            rintro e W24 ⟨rfl, hb_⟩
            replace RB := Aside0.mk (And.intro RB.out.1 (Kd.C_below RB.out.2 hb_))
            replace HB57 := Aside0.mk (below_step HB57.out hb_)
            replace EP := Aside0.mk (ErrV.below EP.out hb_)
            replace KP := Aside0.mk (blk_below KP.out hb_)
            replace HQ := Aside0.mk (below_step HQ.out hb_)
            clear hb_
            go_wp2_with fail
            go_meet
            exact ⟨rfl, HQ.out⟩
          · have hbg2 : ¬ ((Y.length : Int) < (pr : Int)) := by omega
            go_wp2_with fail
            go_meet
            exact ⟨rfl, HQ.out⟩
        case rest =>
        obtain ⟨rfl, hb_⟩ := hcut
        replace RB := Aside0.mk (And.intro RB.out.1 (Kd.C_below RB.out.2 hb_))
        replace HB57 := Aside0.mk (below_step HB57.out hb_)
        replace EP := Aside0.mk (ErrV.below EP.out hb_)
        replace KP := Aside0.mk (blk_below KP.out hb_)
        clear hb_
        go_upto_region 18 with fail
        go_cut [95] from 85 to 94 (fun v wx => v = .bool false ∧ Below wc.heap.size wc wx)
        case first =>
          have HQ := Aside0.mk (Below.refl wc.heap.size wc)
          by_cases hbg : Y.length < pr
          · have hbg2 : ¬ ((pr : Int) ≤ (Y.length : Int)) := by omega
            have hbg3 : (Y.length : Int) < (pr : Int) := by omega
            go_wp2_with fail
            go_meet
            exact ⟨rfl, HQ.out⟩
          · have hbg2 : (pr : Int) ≤ (Y.length : Int) := by omega
            have HX2 := Aside0.mk (HX.out.2 (by omega))
            go_wp2_with fail
            refine (told_no _ ex 173 5 wc (Handle_below HHr.out HB57.out) EP.out (by decide) HX2.out).mono ?_
            rintro e W24 ⟨rfl, hb_⟩
            replace RB := Aside0.mk (And.intro RB.out.1 (Kd.C_below RB.out.2 hb_))
            replace HB57 := Aside0.mk (below_step HB57.out hb_)
            replace EP := Aside0.mk (ErrV.below EP.out hb_)
            replace KP := Aside0.mk (blk_below KP.out hb_)
            replace HQ := Aside0.mk (below_step HQ.out hb_)
            clear hb_
            go_wp2_with fail
            go_meet
            exact ⟨rfl, HQ.out⟩
        case rest =>
        obtain ⟨rfl, hb_⟩ := hcut
        replace RB := Aside0.mk (And.intro RB.out.1 (Kd.C_below RB.out.2 hb_))
        replace HB57 := Aside0.mk (below_step HB57.out hb_)
        replace EP := Aside0.mk (ErrV.below EP.out hb_)
        replace KP := Aside0.mk (blk_below KP.out hb_)
        clear hb_
        clear EP HX KP
        go_upto_region 20 with fail
        clear hmul hmul2
        have hBc : B.length ≤ d := RB.out.1
        have hd1 : (1 : Int) ≤ (d : Int) := by omega
        have hd2 : ¬ d = 1 := by omega
        have hd2b : (1 : Int) < (d : Int) := by omega
        have hd1b : (1 : Int) ≤ (B.length : Int) := by omega
        have hyw : wrap64 (2 + Go.bits .and .i64 a0 127) % 256 = y := by rw [← hy, IntKind.wrap_u8, IntKind.wrap_i64]; unfold wrap64; omega
        have hdr : kB.C wc (some ⟨gB, 1, none⟩) (B.length - 1) (B.drop 1) := by
          have h9 := Kd.C_drop (m := 1) RB.out.2 (by omega) RB.out.1
          rw [if_neg hd2, List.length_drop] at h9
          exact h9
        have HDR := Aside0.mk hdr
        clear hdr
        go_upto_region 21 with ((with_reducible refine gate_builtin (b := .append) (xs := #[.tmp 100, .tmp 102]) rfl ?_); at_builtin; refine Kd.R_append_rows (Kd.int .u8) (w0 := wr) wr.heap.size rfl (.tmp 100) (.tmp 102) 22 5 (.int .u8 0) 1 rfl Tryd.underlying22 info5b rfl (by decide) (by omega) (.slice (some ⟨wc.heap.size, 0, none⟩) 1 1) ([y]) (B.drop 1) (some ⟨gB, 1, none⟩) (B.length - 1) (d - 1) (fun _ => True) (fun _ => False) rfl rfl ?aO ?aR (fun _ _ h => h) (fun _ h => h.elim) ?aF ?aB ?aS ?aL ?_; (case aO => exact byte_row wr wc y HB57.out); (case aR => exact (Kd.C_alloc HDR.out _)); (case aF => exact (fun _ _ => trivial)); (case aB => exact (below_alloc HB57.out _)); (case aS => exact ((below_alloc HB57.out _)).size); (case aL => (simp only [List.length_drop, List.length_singleton]; omega)); intro v103 w103 ho103 hb103 hg103 hat103; have O103 := Aside0.mk (And.intro ho103 hb103); clear ho103 hb103 hg103 hat103)
        have hR := O103.out.1
        rw [List.singleton_append] at hR
        have hb_ := O103.out.2
        obtain ⟨OD, hOD⟩ : ∃ z, z = y :: B.drop 1 := ⟨_, rfl⟩
        have hodp : parsedR OD 256 65536 = .error (0, 170) := by rw [hOD]; exact odd_parsed y (B.drop 1) ⟨hy2, hy3⟩ (by rw [List.length_drop]; omega)
        have hodl : OD.length = B.length := by rw [hOD, List.length_cons, List.length_drop]; omega
        rw [← hOD] at hR
        obtain ⟨DO, dO, e2_⟩ := Kd.R_slice hR
        subst e2_
        have RO := Aside0.mk (Kd.R_reads' hR).2
        have HODL := Aside0.mk hodl
        have HBo := Aside0.mk hb_
        clear hR hb_ hOD O103 HDR hyw hd1 hd2 hd2b hd1b hBc HB57 RB hodl
        go_wp2_with fail
        refine (parse_err DO dO OD 256 65536 w103 (0, 170) RO.out.2 RO.out.1 (by have := HODL.out; omega) hodp).mono ?_
        rintro e W24 ⟨ge1, rfl, hev_, hb_⟩
        have EV1 := Aside0.mk hev_
        clear hev_
        replace RO := Aside0.mk (And.intro RO.out.1 (Kd.C_below RO.out.2 hb_))
        replace HBo := Aside0.mk (below_step HBo.out hb_)
        clear hb_
        go_upto_region 22 with fail
        obtain ⟨gp1, hgp1_⟩ : ∃ x, x = W24.heap.size := ⟨_, rfl⟩
        obtain ⟨W25, hW25_⟩ : ∃ x, x = W24.alloc (.cells #[.int .i64 0, .slice none 0 0, .slice none 0 0, .slice none 0 0] 28) := ⟨_, rfl⟩
        rw [← hW25_, ← hgp1_]
        have KP1 := Aside0.mk (show W25.heap[gp1]? = some (.cells #[.int .i64 0, .slice none 0 0, .slice none 0 0, .slice none 0 0] 28 (0, 0)) by rw [hW25_, hgp1_]; exact World.alloc_heap_new _ _)
        have hb_ : Below W24.heap.size W24 W25 := by rw [hW25_]; exact below_alloc (Below.refl _ _) _
        clear hW25_ hgp1_
        replace RO := Aside0.mk (And.intro RO.out.1 (Kd.C_below RO.out.2 hb_))
        replace HBo := Aside0.mk (below_step HBo.out hb_)
        replace EV1 := Aside0.mk (ErrV.below EV1.out hb_)
        clear hb_
        clear KP1
        have hm8b := hm8
        go_wp2_with fail
        refine (put32_row _ [1] (m8 : Int) true W25 _ (byte_row W25 W25 1 (Below.refl _ _)) (below_alloc (Below.refl _ _) _) (by simp)).mono ?_
        rintro e w17 ⟨u17, rfl, hR, hb_⟩
        obtain ⟨NB, hNB⟩ : ∃ z, z = bitB true ++ P32 (m8 : Int) true := ⟨_, rfl⟩
        have hnp := none_parsed true m8 ⟨hm7, hm9⟩
        have hnl : NB.length = 5 := by rw [hNB, List.length_append, P32_len]; rfl
        rw [← hNB] at hnp
        rw [show ([1] ++ P32 (m8 : Int) true : List Int) = NB from hNB.symm] at hR
        obtain ⟨gN, dN, e2_, -, -, -⟩ := Kd.R_form hR (by omega)
        subst e2_
        have RN := Aside0.mk (Kd.R_reads' hR).2
        have HNP := Aside0.mk (And.intro hnp hnl)
        have hnd : (3 : Int) ≤ (dN : Int) := by have := RN.out.1; omega
        clear hR hNB hnp
        replace RO := Aside0.mk (And.intro RO.out.1 (Kd.C_below RO.out.2 hb_))
        replace HBo := Aside0.mk (below_step HBo.out hb_)
        replace EV1 := Aside0.mk (ErrV.below EV1.out hb_)
        clear hb_
        rw [hnl]
        have hnl3 : (NB.take 3).length = 3 := by rw [List.length_take, hnl]; rfl
        have HN3 := Aside0.mk hnl3
        clear hnl hnl3
        go_wp2_with fail
        have hpc := parse_err (some ⟨gN, 0, none⟩) dN NB 256 65536 w17 (1, 171) RN.out.2 RN.out.1 (by rw [HNP.out.2]; omega) HNP.out.1.1
        rw [HNP.out.2] at hpc
        refine (hpc).mono ?_
        rintro e W26 ⟨ge2, rfl, hev_, hb_⟩
        have EV2 := Aside0.mk hev_
        clear hev_
        replace RO := Aside0.mk (And.intro RO.out.1 (Kd.C_below RO.out.2 hb_))
        replace HBo := Aside0.mk (below_step HBo.out hb_)
        replace EV1 := Aside0.mk (ErrV.below EV1.out hb_)
        replace RN := Aside0.mk (And.intro RN.out.1 (Kd.C_below RN.out.2 hb_))
        clear hb_
        clear hpc
        go_upto_region 24 with fail
        obtain ⟨gp2, hgp2_⟩ : ∃ x, x = W26.heap.size := ⟨_, rfl⟩
        obtain ⟨W27, hW27_⟩ : ∃ x, x = W26.alloc (.cells #[.int .i64 0, .slice none 0 0, .slice none 0 0, .slice none 0 0] 28) := ⟨_, rfl⟩
        rw [← hW27_, ← hgp2_]
        have KP2 := Aside0.mk (show W27.heap[gp2]? = some (.cells #[.int .i64 0, .slice none 0 0, .slice none 0 0, .slice none 0 0] 28 (0, 0)) by rw [hW27_, hgp2_]; exact World.alloc_heap_new _ _)
        have hb_ : Below W26.heap.size W26 W27 := by rw [hW27_]; exact below_alloc (Below.refl _ _) _
        clear hW27_ hgp2_
        replace RO := Aside0.mk (And.intro RO.out.1 (Kd.C_below RO.out.2 hb_))
        replace HBo := Aside0.mk (below_step HBo.out hb_)
        replace EV1 := Aside0.mk (ErrV.below EV1.out hb_)
        replace RN := Aside0.mk (And.intro RN.out.1 (Kd.C_below RN.out.2 hb_))
        replace EV2 := Aside0.mk (ErrV.below EV2.out hb_)
        clear hb_
        clear KP2
        go_wp2_with fail
        have hpc := parse_err (some ⟨gN, 0, none⟩) dN (NB.take 3) 256 65536 W27 (1, 160) (Kd.C_take RN.out.2 (by rw [HNP.out.2]; omega)) (by rw [HN3.out]; omega) (by rw [HN3.out]; omega) HNP.out.1.2
        rw [HN3.out] at hpc
        refine (hpc).mono ?_
        rintro e W28 ⟨ge3, rfl, hev_, hb_⟩
        have EV3 := Aside0.mk hev_
        clear hev_
        replace RO := Aside0.mk (And.intro RO.out.1 (Kd.C_below RO.out.2 hb_))
        replace HBo := Aside0.mk (below_step HBo.out hb_)
        replace EV1 := Aside0.mk (ErrV.below EV1.out hb_)
        replace RN := Aside0.mk (And.intro RN.out.1 (Kd.C_below RN.out.2 hb_))
        replace EV2 := Aside0.mk (ErrV.below EV2.out hb_)
        clear hb_
        clear hpc
        go_upto_region 25 with fail
        obtain ⟨gp3, hgp3_⟩ : ∃ x, x = W28.heap.size := ⟨_, rfl⟩
        obtain ⟨W29, hW29_⟩ : ∃ x, x = W28.alloc (.cells #[.int .i64 0, .slice none 0 0, .slice none 0 0, .slice none 0 0] 28) := ⟨_, rfl⟩
        rw [← hW29_, ← hgp3_]
        have KP3 := Aside0.mk (show W29.heap[gp3]? = some (.cells #[.int .i64 0, .slice none 0 0, .slice none 0 0, .slice none 0 0] 28 (0, 0)) by rw [hW29_, hgp3_]; exact World.alloc_heap_new _ _)
        have hb_ : Below W28.heap.size W28 W29 := by rw [hW29_]; exact below_alloc (Below.refl _ _) _
        clear hW29_ hgp3_
        replace RO := Aside0.mk (And.intro RO.out.1 (Kd.C_below RO.out.2 hb_))
        replace HBo := Aside0.mk (below_step HBo.out hb_)
        replace EV1 := Aside0.mk (ErrV.below EV1.out hb_)
        replace RN := Aside0.mk (And.intro RN.out.1 (Kd.C_below RN.out.2 hb_))
        replace EV2 := Aside0.mk (ErrV.below EV2.out hb_)
        replace EV3 := Aside0.mk (ErrV.below EV3.out hb_)
        clear hb_
        clear KP3
        go_wp2_with fail
        refine (parse_err none 0 [] 256 65536 W29 (0, 160) (Kd.C_nil _ _) (Nat.le_refl _) (by simp) nil_parsed).mono ?_
        rintro e W30 ⟨ge4, rfl, hev_, hb_⟩
        have EV4 := Aside0.mk hev_
        clear hev_
        replace RO := Aside0.mk (And.intro RO.out.1 (Kd.C_below RO.out.2 hb_))
        replace HBo := Aside0.mk (below_step HBo.out hb_)
        replace EV1 := Aside0.mk (ErrV.below EV1.out hb_)
        replace RN := Aside0.mk (And.intro RN.out.1 (Kd.C_below RN.out.2 hb_))
        replace EV2 := Aside0.mk (ErrV.below EV2.out hb_)
        replace EV3 := Aside0.mk (ErrV.below EV3.out hb_)
        clear hb_
        go_upto_region 26 with fail
        obtain ⟨gp4, hgp4_⟩ : ∃ x, x = W30.heap.size := ⟨_, rfl⟩
        obtain ⟨W31, hW31_⟩ : ∃ x, x = W30.alloc (.cells #[.int .i64 0, .slice none 0 0, .slice none 0 0, .slice none 0 0] 28) := ⟨_, rfl⟩
        rw [← hW31_, ← hgp4_]
        have KP4 := Aside0.mk (show W31.heap[gp4]? = some (.cells #[.int .i64 0, .slice none 0 0, .slice none 0 0, .slice none 0 0] 28 (0, 0)) by rw [hW31_, hgp4_]; exact World.alloc_heap_new _ _)
        have hb_ : Below W30.heap.size W30 W31 := by rw [hW31_]; exact below_alloc (Below.refl _ _) _
        clear hW31_ hgp4_
        replace RO := Aside0.mk (And.intro RO.out.1 (Kd.C_below RO.out.2 hb_))
        replace HBo := Aside0.mk (below_step HBo.out hb_)
        replace EV1 := Aside0.mk (ErrV.below EV1.out hb_)
        replace RN := Aside0.mk (And.intro RN.out.1 (Kd.C_below RN.out.2 hb_))
        replace EV2 := Aside0.mk (ErrV.below EV2.out hb_)
        replace EV3 := Aside0.mk (ErrV.below EV3.out hb_)
        replace EV4 := Aside0.mk (ErrV.below EV4.out hb_)
        clear hb_
        clear KP4
        go_wp2_with fail
        refine (told_yes _ (some ((0 : Int), (170 : Int))) _ W31 (Handle_below HHr.out HBo.out) EV1.out (fun _ => ⟨code_ne (by decide), rfl⟩)).mono ?_
        rintro e W32 ⟨rfl, hb_⟩
        replace RO := Aside0.mk (And.intro RO.out.1 (Kd.C_below RO.out.2 hb_))
        replace HBo := Aside0.mk (below_step HBo.out hb_)
        replace EV1 := Aside0.mk (ErrV.below EV1.out hb_)
        replace RN := Aside0.mk (And.intro RN.out.1 (Kd.C_below RN.out.2 hb_))
        replace EV2 := Aside0.mk (ErrV.below EV2.out hb_)
        replace EV3 := Aside0.mk (ErrV.below EV3.out hb_)
        replace EV4 := Aside0.mk (ErrV.below EV4.out hb_)
        clear hb_
        go_wp2_with fail
        refine (told_yes _ (some ((1 : Int), (171 : Int))) _ W32 (Handle_below HHr.out HBo.out) EV2.out (fun _ => ⟨code_ne (by decide), rfl⟩)).mono ?_
        rintro e W33 ⟨rfl, hb_⟩
        replace RO := Aside0.mk (And.intro RO.out.1 (Kd.C_below RO.out.2 hb_))
        replace HBo := Aside0.mk (below_step HBo.out hb_)
        replace EV1 := Aside0.mk (ErrV.below EV1.out hb_)
        replace RN := Aside0.mk (And.intro RN.out.1 (Kd.C_below RN.out.2 hb_))
        replace EV2 := Aside0.mk (ErrV.below EV2.out hb_)
        replace EV3 := Aside0.mk (ErrV.below EV3.out hb_)
        replace EV4 := Aside0.mk (ErrV.below EV4.out hb_)
        clear hb_
        go_wp2_with fail
        refine (told_yes _ (some ((1 : Int), (160 : Int))) _ W33 (Handle_below HHr.out HBo.out) EV3.out (fun _ => ⟨code_ne (by decide), rfl⟩)).mono ?_
        rintro e W34 ⟨rfl, hb_⟩
        replace RO := Aside0.mk (And.intro RO.out.1 (Kd.C_below RO.out.2 hb_))
        replace HBo := Aside0.mk (below_step HBo.out hb_)
        replace EV1 := Aside0.mk (ErrV.below EV1.out hb_)
        replace RN := Aside0.mk (And.intro RN.out.1 (Kd.C_below RN.out.2 hb_))
        replace EV2 := Aside0.mk (ErrV.below EV2.out hb_)
        replace EV3 := Aside0.mk (ErrV.below EV3.out hb_)
        replace EV4 := Aside0.mk (ErrV.below EV4.out hb_)
        clear hb_
        go_wp2_with fail
        refine (told_yes _ (some ((0 : Int), (160 : Int))) _ W34 (Handle_below HHr.out HBo.out) EV4.out (fun _ => ⟨code_ne (by decide), rfl⟩)).mono ?_
        rintro e W35 ⟨rfl, hb_⟩
        replace RO := Aside0.mk (And.intro RO.out.1 (Kd.C_below RO.out.2 hb_))
        replace HBo := Aside0.mk (below_step HBo.out hb_)
        replace EV1 := Aside0.mk (ErrV.below EV1.out hb_)
        replace RN := Aside0.mk (And.intro RN.out.1 (Kd.C_below RN.out.2 hb_))
        replace EV2 := Aside0.mk (ErrV.below EV2.out hb_)
        replace EV3 := Aside0.mk (ErrV.below EV3.out hb_)
        replace EV4 := Aside0.mk (ErrV.below EV4.out hb_)
        clear hb_
        go_wp2_with fail
        go_roundg kq
        case measure => omega
        case rel => exact ⟨2, by have := HJ.out; omega, by go_num, ⟨below_step HF.out HBo.out⟩⟩
theorem counts_all (a0 a1 : Int) (A2 : Option Addr) (c2 : Nat) (X : List Int) (W : World) (h1 : 0 ≤ a1 ∧ a1 ≤ 4294967295) (hCX : kB.C W A2 X.length X) (hcX : X.length ≤ c2) (hBX : Byt X) (hh : Handle W) :
    Calls Tryd.prog 7 #[.int .i64 a0, .int .u32 a1, .slice A2 X.length c2] W fun e W' => e = .returned (.bool true) ∧ Below W.heap.size W W' := by
  obtain ⟨n, rfl⟩ := Int.eq_ofNat_of_zero_le h1.1
  exact counts_calls a0 n A2 c2 X W (by omega) hCX hcX hBX hh
end Go.Proofs.YtiiolhnpnlmkjaaDoor.Tree
