/- The law OctetFresh by contract. No conditions but those told. -/
import Derived.Test.YtenomaibgpbonaaTFamO
import Derived.Deep.QuietTactic
import Derived.BigQuiet
namespace Go.Proofs.Ytenomaibgpbonaa.Tree
open Go.RowKit Go.Proofs.Ytenomaibgpbonaa.POctetFresh Go.Proofs.YtenomaibgpbonaaW.PrintWords Go.Proofs.YtenomaibgpbonaaW.PrintLast Go.Proofs.YtenomaibgpbonaaW.PrintMore Go.Proofs.Ytenomaibgpbonaa.Math Go.Proofs.Ytenomaibgpbonaa.OFresh
attribute [local go_sem] max2_int min2_int max_two min_two
set_option linter.unusedVariables false
set_option linter.unusedSimpArgs false
theorem infoH : (Try.prog.info? 22).map (fun i => (i.zero, i.size, i.bytes)) = some (some (.slice none 0 0), 1, 24) := by kernel_rfl
/-- The state at a turn's head. -/
structure Hd0 (w W : World) (b : List Int) (v : Int) (u va vf : Value) (t : Nat) (L F : List (Value × List Int)) : Prop where
  S : St w W [(va, heads L), (vf, heads F)] (L ++ (u, b ++ [77, 88]) :: F)
  n : L.length = 3 * t
  c : Ct b v (if t ≤ 1 then 0 else 3 * t) L
  f : F.length = if t = 0 then 0 else 3
  d : Ct b v 0 F
theorem lentC {base : Nat} {W : World} {A : Option Addr} {c : Nat} {b : List Int} (h : Row kB 5 base W (.slice A (b.length + 2) c, b ++ [77, 88])) : Kd.C kB W A b.length b := by
  have h2 := Kd.R_take (m := b.length) h (by simp)
  rw [show List.take b.length (b ++ [77, 88]) = b from by simp] at h2
  exact (Kd.R_reads' h2).2.2
theorem Hd0.start {w w1 w2 : World} {b : List Int} {v : Int} {u : Value} (hu : Made w w1 u (b ++ [77, 88])) (hb : Below w1.heap.size w1 w2) : Hd0 w w2 b v u (.slice none 0 0) (.slice none 0 0) 0 [] [] := by
  refine ⟨⟨⟨fun p hp => ?_, by simp [Far, Value.ownBlock]⟩, ⟨fun p hp => ?_, by simp⟩, below_step hu.2 hb⟩, rfl, fun i p h => by simp at h, rfl, fun i p h => by simp at h⟩
  · have : p = (.slice none 0 0, []) := by
      rcases List.mem_cons.1 hp with h | h
      · exact h
      · exact List.mem_singleton.1 h
    rw [this]
    exact Kd.R_nil _ _ _ _ _
  · rw [List.mem_singleton.1 hp]
    exact Kd.R_below (Kd.R_mono hu.1 (fun _ _ => trivial)) hb
set_option maxRecDepth 100000 in
set_option maxHeartbeats 16000000 in
theorem fresh_calls (A0 : Option Addr) (c0 : Nat) (b : List Int) (v : Int) (w : World) (hC : Kd.C (Kd.int .u8) w A0 b.length b) (hc : b.length ≤ c0) (hl : b.length ≤ 1048576) (hw : ∀ x ∈ b, 0 ≤ x ∧ x < 256) (hv : 0 ≤ v ∧ v < 18446744073709551616) :
    Calls Try.prog 4 #[.slice A0 b.length c0, .int .u64 v] w fun e w' => e = .returned (.bool true) ∧ Below w.heap.size w w' := by
  have HC := Aside0.mk hC
  have HW := Aside0.mk hw
  clear hC hw
  go_enter Try.func4, Try.ntmps4
  go_wp2_with fail
  refine (lent_ok A0 c0 b w HC.out hc (by omega)).mono ?_
  rintro e w1 ⟨u, rfl, hu⟩
  go_wp2_with fail
  refine (hex_ok A0 c0 b w1 (Kd.C_below HC.out hu.2) hc hl HW.out).mono ?_
  rintro e w2 ⟨rfl, hb2⟩
  obtain ⟨Au, cu, rfl⟩ := Kd.R_slice hu.1
  have hlu : (b ++ [77, 88]).length = b.length + 2 := by simp
  rw [hlu] at hu ⊢
  have HS0 := Aside0.mk (Hd0.start (v := v) hu hb2)
  have hcu : (b.length : Int) ≤ (cu : Int) := by have := (HS0.out.S.B.1 _ (List.mem_append_right _ (List.mem_cons_self ..))).len_; omega
  obtain ⟨hs, hhs⟩ : ∃ y, y = strOfNums (hexs b) := ⟨_, rfl⟩
  rw [← hhs]
  have hsz : hs.size + 2 ≤ 9223372036854775807 := by rw [hhs, strOfNums_size, hexs_length]; omega
  have hsz2 : (9223372036854775807 < hs.size + 2) = False := eq_false (Nat.not_lt.2 hsz)
  have HHS := Aside0.mk hhs
  clear hhs hu hb2
  go_wp2_with fail
  go_loopg [7, 8, 9, 10, 11, 12, 13, 14, 15, 16, 17, 18] 3 (fun kq va vf tt x10 x11 x12 x13 x14 x15 x16 x17 x18 wr => ∃ (t : Nat) (Al Af : Option Addr) (ca cf : Nat) (L F : List (Value × List Int)), va = .slice Al L.length ca ∧ vf = .slice Af F.length cf ∧ tt = .int .i64 (t : Int) ∧ t + kq = 3 ∧ Aside0 (Hd0 w wr b v (.slice Au (b.length + 2) cu) (.slice Al L.length ca) (.slice Af F.length cf) t L F))
  case atStart => exact ⟨0, none, none, 0, 0, [], [], rfl, rfl, rfl, rfl, HS0⟩
  case round =>
    obtain ⟨t, Al, Af, ca, cf, L, F, rfl, rfl, rfl, htk, HS⟩ := hrel
    clear HS0
    cases gk with
    | zero =>
      have hlt : ¬ ((t : Int) < 3) := by omega
      obtain rfl : t = 3 := by omega
      have HL9 := Aside0.mk (And.intro HS.out.n (show Ct b v 9 L from HS.out.c))
      have hL9 : L.length = 9 := HS.out.n
      obtain ⟨H0, hH0⟩ : ∃ y, y = wr.heap.size := ⟨_, rfl⟩
      have HLo := Aside0.mk (show Lo w wr b v L (.slice Al L.length ca) (.slice Au (b.length + 2) cu) H0 (.slice none 0 0) (heads []) [] from
        ⟨⟨⟨fun p hp => by
            rcases List.mem_cons.1 hp with hp | hp
            · exact HS.out.S.H.1 p (by rw [hp]; exact List.mem_cons_self ..)
            · rw [List.mem_singleton.1 hp]; exact Kd.R_nil _ _ _ _ _, List.pairwise_pair.2 (fun k hk he => by simp [Value.ownBlock] at he)⟩,
          Fam.left (L' := F) (by have h9 := HS.out.S.B; rwa [show L ++ (Value.slice Au (b.length + 2) cu, b ++ [77, 88]) :: F = (L ++ [(Value.slice Au (b.length + 2) cu, b ++ [77, 88])]) ++ F from by simp] at h9), HS.out.S.K⟩,
          Nat.le_of_eq hH0, fun p hp j hj => by rw [hH0]; exact (HS.out.S.B.1 p (List.mem_append_left _ hp)).lt j hj, fun i q hq => by simp at hq⟩)
      rw [hL9] at HLo ⊢
      clear HS hH0
      go_wp2_with fail
      go_loopg [19, 20] 9 (fun kl vl nn wr => ∃ (k : Nat) (Ag : Option Addr) (cg : Nat) (G : List (Value × List Int)), vl = .slice Ag G.length cg ∧ nn = .int .i64 (k : Int) ∧ k + kl = 9 ∧ G.length ≤ k ∧ k ≤ G.length ∧ Aside0 (Lo w wr b v L (.slice Al 9 ca) (.slice Au (b.length + 2) cu) H0 (.slice Ag G.length cg) (heads G) G))
      case atStart => exact ⟨0, none, 0, [], rfl, rfl, rfl, Nat.le_refl _, Nat.le_refl _, HLo⟩
      case round =>
        obtain ⟨k, Ag, cg, G, rfl, rfl, hk, hG1, hG2, HLo⟩ := hrel
        cases gk with
        | zero =>
          have hlt : ¬ ((k : Int) < 9) := by omega
          obtain rfl : k = 9 := by omega
          have hG9 : G.length = 9 := by omega
          rw [hG9] at HLo ⊢
          go_wp2_with fail
          go_loopg [21, 22] 9 (fun kn nn x22 wr => ∃ n : Nat, nn = .int .i64 (n : Int) ∧ n + kn = 9 ∧ Aside0 (Lo w wr b v L (.slice Al 9 ca) (.slice Au (b.length + 2) cu) H0 (.slice Ag 9 cg) (heads G) G))
          case atStart => exact ⟨0, rfl, rfl, HLo⟩
          case round =>
            clear HLo
            obtain ⟨n, rfl, hn, HLo⟩ := hrel
            cases gk with
            | zero =>
              have hlt : ¬ ((n : Int) < 9) := by omega
              obtain rfl : n = 9 := by omega
              go_wp2_with fail
              have hur := HLo.out.S.B.1 _ (List.mem_append_right _ (List.mem_singleton.2 rfl))
              have hK := HLo.out.S.K
              have hkept := kept_ok Au cu (b ++ [77, 88]) wr (hlu ▸ hur.len_.2.2) (by have := hur.len_.2.1; omega) (by omega) A0 c0 b (Kd.C_below HC.out hK) hc rfl
              rw [hlu] at hkept
              refine hkept.mono ?_
              rintro e w9 ⟨rfl, hd9⟩
              have HU := Aside0.mk (And.intro (hur.below hd9.below) (below_step hK hd9.below))
              clear hur hK hkept hd9 HLo
              go_wp2_with fail
              go_loopg [23] b.length (fun kq ii wr => ∃ k : Nat, ii = .int .i64 (k : Int) ∧ k + kq = b.length ∧ Aside0 (Row kB 5 w.heap.size wr (.slice Au (b.length + 2) cu, turned b k) ∧ Below w.heap.size w wr))
              case atStart => exact ⟨0, rfl, by omega, ⟨by rw [turned_zero]; exact HU.out.1, HU.out.2⟩⟩
              case round =>
                clear HU
                obtain ⟨k, rfl, hk, HU⟩ := hrel
                cases gk with
                | zero =>
                  have hlk : ¬ ((k : Int) < (b.length : Int)) := by omega
                  obtain rfl : k = b.length := by omega
                  obtain ⟨mm, hmm⟩ : ∃ y, y = b.map cmpl := ⟨_, rfl⟩
                  have hml : mm.length = b.length := by rw [hmm]; simp
                  have hmw : ∀ x ∈ mm, 0 ≤ x ∧ x < 256 := by
                    intro x hx
                    rw [hmm] at hx
                    obtain ⟨y, hy, rfl⟩ := List.mem_map.1 hx
                    have := cmpl_spec y (HW.out y hy).1 (HW.out y hy).2
                    exact ⟨this.1, this.2.1⟩
                  obtain ⟨hcl, hcu2⟩ := turnedC HU.out.1
                  rw [← hmm] at hcl
                  have HCL := Aside0.mk hcl
                  have HMW := Aside0.mk hmw
                  have HNE := Aside0.mk (fun h => turned_ne b HW.out h)
                  rw [← hmm, ← HHS.out] at HNE
                  obtain ⟨hs1, hhs1⟩ : ∃ y, y = strOfNums (hexs mm) := ⟨_, rfl⟩
                  rw [← hhs1] at HNE
                  have HHS1 := Aside0.mk hhs1
                  clear hhs1
                  have HML := Aside0.mk hml
                  clear hcl hmw hmm hml
                  go_wp2_with ((with_reducible refine gate_builtin (b := .append) (xs := #[.tmp 229, .tmp 233]) rfl ?_); at_builtin; refine Kd.R_append_rows kB (w0 := wr) wr.heap.size rfl (.tmp 229) (.tmp 233) 22 5 (.int .u8 0) 1 rfl Try.underlying22 info5 rfl (by decide) (by omega) (.slice (some ⟨wr.heap.size, 0, none⟩) 0 0) [] mm _ _ _ (fun _ => True) (fun _ => False) rfl rfl ?aO ?aR (fun _ _ h => h) (fun _ h => h.elim) ?aF ?aB ?aS ?aL ?_; (case aO => exact row_empty wr); (case aR => exact Kd.C_alloc HCL.out _); (case aF => exact fun _ _ => trivial); (case aB => exact below_alloc (Below.refl _ _) _); (case aS => exact (below_alloc (Below.refl _ _) _).size); (case aL => show (0 + b.length) * 1 ≤ _; omega); intro v7 w7 ho7 hb7 hg7 hat7; rw [List.nil_append] at ho7; obtain ⟨A7, c7, e7⟩ := Kd.R_slice ho7; subst e7; (rw [HML.out] at ho7 ⊢); have HO7 := Aside0.mk (And.intro ho7 hb7); clear ho7 hb7 hg7 hat7)
                  have hXL : ∀ (W : World), Below wr.heap.size wr W → Kd.C kB W Au b.length mm := fun W hb => Kd.C_below HCL.out hb
                  have hXM : ∀ (W : World), Below w7.heap.size w7 W → Kd.C kB W A7 b.length mm ∧ b.length ≤ c7 := fun W hb => by
                    have h9 := Kd.R_reads' HO7.out.1
                    exact ⟨Kd.C_below (HML.out ▸ h9.2.2) hb, h9.2.1⟩
                  have HXL := Aside0.mk hXL
                  have HXM := Aside0.mk hXM
                  have HB7 := Aside0.mk (below_step HU.out.2 HO7.out.2)
                  clear hXL hXM
                  have ha := hex_ok Au cu mm w7 (HML.out.symm ▸ HXL.out _ HO7.out.2) (by rw [HML.out]; exact hcu2) (by rw [HML.out]; exact hl) HMW.out
                  rw [HML.out, ← HHS1.out] at ha
                  go_wp2_with fail
                  refine ha.mono ?_
                  rintro e wa ⟨rfl, hba⟩
                  clear ha
                  go_wp2_with fail
                  have hb := hex_ok A7 c7 mm wa (HML.out.symm ▸ (HXM.out _ hba).1) (by rw [HML.out]; exact (HXM.out _ hba).2) (by rw [HML.out]; exact hl) HMW.out
                  rw [HML.out, ← HHS1.out] at hb
                  refine hb.mono ?_
                  rintro e wb ⟨rfl, hbb⟩
                  clear hb
                  have HBb := Aside0.mk (below_step hba hbb)
                  clear hba hbb
                  go_wp2_with fail
                  have hp := put64_ok Au cu mm wb (HML.out.symm ▸ HXL.out _ (below_step HO7.out.2 HBb.out)) (by rw [HML.out]; exact hcu2) (by rw [HML.out]; omega) v true
                  rw [HML.out] at hp
                  refine hp.mono ?_
                  rintro e wc ⟨y1, rfl, hy1⟩
                  clear hp
                  have HBc := Aside0.mk (below_step HBb.out hy1.2)
                  obtain ⟨B1, d1, rfl⟩ := Kd.R_slice hy1.1
                  rw [P64_len, HML.out] at hy1 ⊢
                  have HY1 := Aside0.mk hy1
                  clear hy1
                  go_wp2_with fail
                  have hp := put64_ok A7 c7 mm wc (HML.out.symm ▸ (HXM.out _ HBc.out).1) (by rw [HML.out]; exact (HXM.out _ HBc.out).2) (by rw [HML.out]; omega) v true
                  rw [HML.out] at hp
                  refine hp.mono ?_
                  rintro e wd ⟨y2, rfl, hy2⟩
                  clear hp
                  have HBd := Aside0.mk (below_step HBc.out hy2.2)
                  obtain ⟨B2, d2, rfl⟩ := Kd.R_slice hy2.1
                  rw [P64_len, HML.out] at hy2 ⊢
                  have HY2 := Aside0.mk (And.intro (Kd.R_reads' (Kd.R_below HY1.out.1 hy2.2)).2 (Kd.R_reads' hy2.1).2)
                  clear hy2 HY1
                  go_wp2_with fail
                  have hs := same_ok B1 d1 (P64 mm v true) wd HY2.out.1.2 (by rw [P64_len, HML.out]; exact HY2.out.1.1) (by rw [P64_len, HML.out]; omega) B2 d2 (P64 mm v true) HY2.out.2.2 (by rw [P64_len, HML.out]; exact HY2.out.2.1) rfl
                  rw [P64_len, HML.out] at hs
                  refine hs.mono ?_
                  rintro e we ⟨rfl, hde⟩
                  have HBe := Aside0.mk (below_step HBd.out hde.below)
                  clear hs hde
                  by_cases hb0 : b.length = 0
                  · go_wp2_with fail
                    go_ret
                    exact ⟨rfl, below_step HB7.out HBe.out⟩
                  · have hb0' : ¬ ((b.length : Int) = 0) := by omega
                    go_wp2_with fail
                    have hx := hex_ok A7 c7 mm we (HML.out.symm ▸ (HXM.out _ HBe.out).1) (by rw [HML.out]; exact (HXM.out _ HBe.out).2) (by rw [HML.out]; exact hl) HMW.out
                    rw [HML.out, ← HHS1.out] at hx
                    refine hx.mono ?_
                    rintro e wf ⟨rfl, hbf⟩
                    have hne : (hs1.toList == hs.toList) = false := by
                      refine beq_eq_false_iff_ne.2 fun h => HNE.out (by omega) (ByteArray.ext (Array.ext' ?_))
                      rwa [ByteArray.toList_eq, ByteArray.toList_eq] at h
                    have HBf := Aside0.mk (below_step HB7.out (below_step HBe.out hbf))
                    clear hx hbf
                    go_wp2_with fail
                    go_ret
                    exact ⟨rfl, HBf.out⟩
                | succ kq =>
                  have hlk : (k : Int) < (b.length : Int) := by omega
                  obtain ⟨x, hx⟩ : ∃ x, (turned b k)[k]? = some x := ⟨_, List.getElem?_eq_getElem (by rw [turned_len b k (by omega)]; omega)⟩
                  obtain ⟨gu, rfl, hc1, hf1⟩ := HU.out.1.cellB hx
                  have hlk2 : (k : Int) < (b.length : Int) + 2 := by omega
                  rw [turned_at b k (by omega)] at hx
                  obtain rfl := Option.some.inj hx
                  obtain ⟨x, hx2⟩ : ∃ y, y = b[k] := ⟨_, rfl⟩
                  rw [← hx2] at hc1
                  have HX := Aside0.mk hx2
                  clear hx2 hx
                  go_wp2_with fail
                  go_roundg kq
                  case measure => omega
                  case rel => exact ⟨k + 1, by go_num, by omega, ⟨by
                      have h9 := HU.out.1.store k (cmpl x)
                      rw [HX.out, turned_step b k (by omega), ← HX.out] at h9
                      exact h9.1, by
                      have h9 := HU.out.1.store k (cmpl x)
                      exact HU.out.2.grown h9.2 HU.out.2.size (fun j hj => HU.out.1.from_ j hj)⟩⟩
            | succ kn =>
              have hlt : (n : Int) < 9 := by omega
              have hn9 : n < 9 := by omega
              obtain ⟨p, hp⟩ : ∃ p, L[n]? = some p := ⟨_, List.getElem?_eq_getElem (by omega)⟩
              have hpo := HL9.out.2 n p hp
              rw [if_pos hn9] at hpo
              obtain ⟨q, hq⟩ : ∃ q, G[n]? = some q := ⟨_, List.getElem?_eq_getElem (by omega)⟩
              have hpr := HLo.out.S.B.1 p (List.mem_append_left _ (List.mem_of_getElem? hp))
              obtain ⟨hqr, hqo, -⟩ := HLo.out.g n q hq
              obtain ⟨pv, X⟩ := p
              obtain ⟨qv, Y⟩ := q
              simp only at hpo hqo
              obtain ⟨Ap, cp, rfl⟩ := Kd.R_slice (v := pv) (xs := X) hpr
              obtain ⟨Aq, cq, rfl⟩ := Kd.R_slice (v := qv) (xs := Y) hqr
              have hYl : Y.length = X.length + 1 := by rw [hqo, hpo]; simp
              obtain ⟨ga, rfl, -, -⟩ := (HLo.out.S.H.row (i := 0) rfl).cellH hp rfl
              obtain ⟨gl, rfl, -, -⟩ := (HLo.out.S.H.row (i := 1) rfl).cellH hq rfl
              rw [hYl] at hq
              have HPQ := Aside0.mk (And.intro hp (And.intro hpo (And.intro hq hqo)))
              have HYl := Aside0.mk hYl
              have hxb : X.length ≤ 1048600 := by rw [hpo, marked, List.length_replicate]; have := orig_len b v n; omega
              clear hp hpo hpr hqr hq hqo hYl
              go_wp2_with fail
              go_loopg [22] (X.length + 1) (fun kw ww wr => ∃ k : Nat, ww = .int .i64 (k : Int) ∧ k + kw = X.length + 1 ∧ Aside0 (Lo w wr b v L (.slice (some ⟨ga, 0, none⟩) 9 ca) (.slice Au (b.length + 2) cu) H0 (.slice (some ⟨gl, 0, none⟩) 9 cg) (heads G) G))
              case atStart => exact ⟨0, rfl, by omega, HLo⟩
              case round =>
                clear HLo
                obtain ⟨k, rfl, hk, HLo⟩ := hrel
                obtain ⟨ga', hga, hc1, -⟩ := (HLo.out.S.H.row (i := 0) rfl).cellH HPQ.out.1 rfl
                obtain rfl : ga = ga' := by injection hga with hga; injection hga
                obtain ⟨gl', hgl, hc2, -⟩ := (HLo.out.S.H.row (i := 1) rfl).cellH HPQ.out.2.2.1 rfl
                obtain rfl : gl = gl' := by injection hgl with hgl; injection hgl
                clear hga hgl
                have hqr := (HLo.out.g n _ HPQ.out.2.2.1).1
                have hpr := HLo.out.S.B.1 _ (List.mem_append_left _ (List.mem_of_getElem? HPQ.out.1))
                cases gk with
                | zero =>
                  have hlt2 : ¬ ((k : Int) < (X.length : Int) + 1) := by omega
                  obtain rfl : k = X.length + 1 := by omega
                  clear hqr hpr
                  go_wp2_with fail
                  go_roundg kn
                  case measure => omega
                  case rel => exact ⟨n + 1, by go_num, by omega, HLo⟩
                | succ kw =>
                  have hlt2 : (k : Int) < (X.length : Int) + 1 := by omega
                  have hkl : k < (marked b v n).length + 1 := by rw [← HPQ.out.2.1]; omega
                  obtain ⟨gq, hgq, hc3, -⟩ := hqr.cellB (i := k) (x := 100 + (n : Int)) (by rw [HPQ.out.2.2.2]; exact marked_at' b v n k hkl)
                  by_cases hkx : k < X.length
                  · have hlt3 : (k : Int) < (X.length : Int) := by omega
                    obtain ⟨gp, hgp, hc4, -⟩ := hpr.cellB (i := k) (x := 100 + (n : Int)) (by rw [HPQ.out.2.1]; exact marked_at b v n k (by rw [← HPQ.out.2.1]; exact hkx))
                    rw [hgp] at hc1
                    rw [hgq] at hc2
                    clear hqr hpr
                    go_wp2_with fail
                    go_roundg kw
                    case measure => omega
                    case rel => exact ⟨k + 1, by go_num, by omega, HLo⟩
                  · have hlt3 : ¬ (k : Int) < (X.length : Int) := by omega
                    rw [hgq] at hc2
                    clear hqr hpr
                    go_wp2_with fail
                    go_roundg kw
                    case measure => omega
                    case rel => exact ⟨k + 1, by go_num, by omega, HLo⟩
        | succ kl =>
          have hlt : (k : Int) < 9 := by omega
          have hk9 : k < 9 := by omega
          obtain ⟨p, hp⟩ : ∃ p, L[k]? = some p := ⟨_, List.getElem?_eq_getElem (by omega)⟩
          have hpo := HL9.out.2 k p hp
          rw [if_pos (by omega)] at hpo
          have hpl := orig_len b v k
          have hpr := HLo.out.S.B.1 p (List.mem_append_left _ (List.mem_of_getElem? hp))
          obtain ⟨pv, X⟩ := p
          simp only at hpo
          have hXl : X.length = (orig b v k).length := by rw [hpo, marked, List.length_replicate]
          obtain ⟨Ap, cp, rfl⟩ := Kd.R_slice (v := pv) (xs := X) hpr
          obtain ⟨ga, rfl, hc1, -⟩ := (HLo.out.S.H.row (i := 0) rfl).cellH hp rfl
          have HP := Aside0.mk (And.intro hp (And.intro hpo hpr))
          have HXl := Aside0.mk (show X.length ≤ 1048600 by omega)
          clear hp hpo hpr hXl hpl
          have hLa := HLo.out.below (below_alloc (Below.refl _ _) (.cells #[.int .u8 (100 + (k : Int))] 5))
          have hc1' := pw_cell_below (below_alloc (Below.refl wr.heap.size wr) (.cells #[.int .u8 (100 + (k : Int))] 5)) hc1
          have HLa := Aside0.mk hLa
          clear hLa
          go_wp2_with (first
            | ((with_reducible refine gate_builtin (b := .append) (xs := #[.tmp 155, .tmp 159]) rfl ?_); at_builtin; refine Kd.R_append_rows_keep kB (w0 := w) w.heap.size rfl (.tmp 155) (.tmp 159) 22 5 (.int .u8 0) 1 rfl Try.underlying22 info5 rfl (by decide) (by omega) (.slice Ap X.length cp) X [100 + (k : Int)] _ _ _ (fun _ => True) (fun _ => False) rfl rfl ?aO ?aR (fun _ _ h => h) (fun _ h => h.elim) ?aF ?aB ?aS ?aL ?_; (case aO => exact Kd.R_alloc HP.out.2.2 _); (case aR => exact (Kd.R_reads' (row_litB wr [100 + (k : Int)] (by show 1 ≤ maxLen; decide))).2.2); (case aF => exact fun _ _ => trivial); (case aB => exact HLa.out.S.K); (case aS => exact HLa.out.S.K.size); (case aL => have := HXl.out; omega); intro v7 w7 ho7 hb7 hg7 hat7 hk7; have HL7 := Aside0.mk (HLa.out.step (by omega) HP.out.1 HP.out.2.1 (v1 := v7) (W1 := w7) ho7 hg7 hat7 hk7); obtain ⟨A7, c7, e7⟩ := Kd.R_slice ho7; subst e7; (rw [show (X ++ [100 + (k : Int)]).length = X.length + 1 from by simp] at HL7 ⊢); clear ho7 hb7 hg7 hat7 hk7)
            | ((with_reducible refine gate_builtin (b := .append) (xs := #[.tmp 151, .tmp 161]) rfl ?_); at_builtin; refine Kd.R_append kH (w0 := w) w.heap.size rfl (.tmp 151) (.tmp 161) 32 22 (.slice none 0 0) 24 rfl Try.underlying32 infoH rfl (by decide) (by omega) (.slice Ag G.length cg) (heads G) (A7, X.length + 1, c7) [.slice A7 (X.length + 1) c7] (fun _ => True) (fun _ => False) rfl rfl ?aP ?aK ?aF ?aO ?aB ?aS ?aL ?_; (case aP => rfl); (case aK => exact fun _ h => h.elim); (case aF => exact fun _ _ => trivial); (case aO => exact HL7.out.S.H.row (i := 1) rfl); (case aB => exact HL7.out.S.K); (case aS => exact HL7.out.S.K.size); (case aL => rw [heads_len]; omega); intro v8 w8 ho8 hb8 hg8 hat8; have HL8 := Aside0.mk (HL7.out.head (W1 := w8) (v2 := v8) ho8 hg8 hat8); obtain ⟨A8, c8, e8⟩ := Kd.R_slice ho8; subst e8; clear ho8 hb8 hg8 hat8))
          go_roundg kl
          case measure => omega
          case rel => exact ⟨k + 1, A8, c8, G ++ [(.slice A7 (X.length + 1) c7, X ++ [100 + (k : Int)])], by simp [heads_len], by go_num, by omega, by simp; omega, by simp; omega, ⟨by
              have h9 := HL8.out
              simp only [heads_app, List.length_append, heads_len] at h9 ⊢
              exact h9⟩⟩
    | succ kq =>
      have hlt : (t : Int) < 3 := by omega
      have HLN := Aside0.mk (show ∀ (HH : List (Value × List Hd)) (R : List (Value × List Int)) (W : World), St w W HH ((L ++ (.slice Au (b.length + 2) cu, b ++ [77, 88]) :: F) ++ R) → Kd.C kB W Au b.length b from
        fun HH R W h => lentC (h.B.1 _ (List.mem_append_left _ (List.mem_append_right _ (List.mem_cons_self ..)))))
      have hcu' : b.length ≤ cu := by omega
      go_wp2_with fail
      refine (put32_ok Au cu b wr (HLN.out _ [] _ (by rw [List.append_nil]; exact HS.out.S)) hcu' (by omega) _ _).mono ?_
      rintro e wx ⟨x, rfl, hx⟩
      obtain ⟨Ax, cx, rfl⟩ := Kd.R_slice hx.1
      rw [P32_len] at hx ⊢
      have HSx := Aside0.mk (HS.out.S.madeB hx)
      clear hx
      go_wp2_with fail
      refine (put64_ok Au cu b wx (HLN.out _ _ _ HSx.out) hcu' (by omega) _ _).mono ?_
      rintro e wy ⟨y, rfl, hy⟩
      obtain ⟨Ay, cy, rfl⟩ := Kd.R_slice hy.1
      rw [P64_len] at hy ⊢
      have HSy := Aside0.mk (HSx.out.madeB hy)
      clear hy HSx
      go_wp2_with fail
      rw [HHS.out]
      refine (unhex_ok b wy (by omega) HW.out).mono ?_
      rw [← HHS.out]
      rintro e wz ⟨z, rfl, hz⟩
      obtain ⟨Az, cz, rfl⟩ := Kd.R_slice hz.1
      rw [show List.length (b ++ [(0 : Int)]) = b.length + 1 from by simp] at hz ⊢
      have HSz := HSy.out.madeB hz
      clear hz HSy
      rw [List.append_assoc, List.append_assoc] at HSz
      have HS4 := Aside0.mk HSz.three
      have HN := Aside0.mk (three_ct b v Ax Ay Az cx cy cz)
      have HL := Aside0.mk (And.intro HS.out.n (And.intro HS.out.c (And.intro HS.out.f HS.out.d)))
      clear HSz HS
      go_wp2_with fail
      obtain ⟨gt, hgt⟩ : ∃ y, y = wz.heap.size := ⟨_, rfl⟩
      obtain ⟨w4, hw4⟩ : ∃ y, y = wz.alloc (.cells #[.slice Ax (b.length + 4) cx, .slice Ay (b.length + 8) cy, .slice Az (b.length + 1) cz] 22) := ⟨_, rfl⟩
      rw [← hw4, ← hgt] at HS4 ⊢
      clear hw4 hgt
      obtain ⟨N, hN⟩ : ∃ y, y = three b v Ax Ay Az cx cy cz := ⟨_, rfl⟩
      rw [← hN] at HS4 HN
      have hNl : N.length = 3 := by rw [hN]; rfl
      have hN3 : (heads N).length = 3 := by rw [heads_len, hNl]
      clear hN
      go_loopg [8, 15] 3 (fun kq vf nn wr => ∃ (k : Nat) (Af : Option Addr) (cf : Nat) (F : List (Value × List Int)), vf = .slice Af F.length cf ∧ nn = .int .i64 (k : Int) ∧ k + kq = 3 ∧ F.length = (if t = 0 then k else 3) ∧ Aside0 (Ct b v 0 F ∧ St w wr [(.slice Al L.length ca, heads L), (.slice Af F.length cf, heads F), (.slice (some ⟨gt, 0, none⟩) 3 3, heads N)] ((L ++ N) ++ (.slice Au (b.length + 2) cu, b ++ [77, 88]) :: F)))
      case atStart => exact ⟨0, Af, cf, F, rfl, rfl, rfl, HL.out.2.2.1, ⟨HL.out.2.2.2, HS4.out⟩⟩
      case round =>
        obtain ⟨k, Af1, cf1, F1, rfl, rfl, hk, hF1, HS⟩ := hrel
        clear HS4
        cases gk with
        | zero =>
          have hlt : ¬ ((k : Int) < 3) := by omega
          obtain rfl : k = 3 := by omega
          obtain ⟨nm, hnm⟩ : ∃ y, y = L.length + 3 := ⟨_, rfl⟩
          have hnm3 : nm ≤ 3 * (t + 1) ∧ 3 * (t + 1) ≤ nm := by have := HL.out.1; omega
          by_cases ht1 : t = 1
          · go_wp2_with ((with_reducible refine gate_builtin (b := .append) (xs := #[.tmp 111, .tmp 112]) rfl ?_); at_builtin; refine Kd.R_append_rows kH (w0 := w) w.heap.size rfl (.tmp 111) (.tmp 112) 32 22 (.slice none 0 0) 24 rfl Try.underlying32 infoH rfl (by decide) (by omega) (.slice Al L.length ca) (heads L) (heads N) _ _ _ (fun _ => True) (fun _ => False) rfl rfl ?aO ?aR (fun _ _ h => h) (fun _ h => h.elim) ?aF ?aB ?aS ?aL ?_; (case aO => exact HS.out.2.H.row (i := 0) rfl); (case aR => (have h9 := (HS.out.2.H.row (i := 2) rfl).len_.2.2); rw [hN3] at h9; exact h9); (case aF => exact fun _ _ => trivial); (case aB => exact HS.out.2.K); (case aS => exact HS.out.2.K.size); (case aL => rw [heads_len]; have := HL.out.1; omega); intro vm wm hom hbm hgm hatm; (have HSm := Aside0.mk (And.intro HS.out.1 (HS.out.2.setH (i := 0) (q := (vm, heads L ++ heads N)) rfl hgm hom hatm))); (have hposm := Kd.R_form hom (by rw [List.length_append, hN3]; omega)); (obtain ⟨ga, cm, rfl, -, -, -⟩ := hposm); (rw [show (heads L ++ heads N).length = L.length + 3 from by rw [List.length_append, hN3, heads_len]] at HSm ⊢); (rw [← hnm] at HSm ⊢); clear hnm; clear HS hbm hgm hatm hom)
            have hF3 : F1.length = 3 := by rw [hF1]; split <;> rfl
            have HSM := Aside0.mk (And.intro (HL.out.2.1.app HL.out.1 (by split <;> omega) HN.out) (show St w wm [(.slice (some ⟨ga, 0, none⟩) nm cm, heads (L ++ N)), (.slice Af1 3 cf1, heads F1)] ((L ++ N) ++ (.slice Au (b.length + 2) cu, b ++ [77, 88]) :: F1) from by
              have h9 := HSm.out.2
              rw [hF3] at h9
              rw [heads_app]
              exact St.leftH (H2 := [(_, heads N)]) h9))
            have HF3 := Aside0.mk (And.intro hF3 HSm.out.1)
            clear HSm hF1
            go_loopg [17, 18] (3 * (t + 1) - 0) (fun kn nn x18 wr => ∃ (n : Nat) (M : List (Value × List Int)), nn = .int .i64 (n : Int) ∧ n + kn = 3 * (t + 1) ∧ (t = 0 → n = 0) ∧ (M.length ≤ 3 * (t + 1) ∧ 3 * (t + 1) ≤ M.length) ∧ Aside0 (Ct b v n M ∧ St w wr [(.slice (some ⟨ga, 0, none⟩) nm cm, heads M), (.slice Af1 3 cf1, heads F1)] (M ++ (.slice Au (b.length + 2) cu, b ++ [77, 88]) :: F1)))
            case atStart => exact ⟨0, L ++ N, by first | rfl | (congr 1; omega), by have := HL.out.1; omega, fun _ => by have := HL.out.1; omega, by rw [List.length_append, hNl, HL.out.1]; omega, ⟨by have h9 := HSM.out.1; have e9 : (if t ≤ 1 then 0 else 3 * t) = 0 := (by have := HL.out.1; split <;> omega); rw [e9] at h9; exact h9, HSM.out.2⟩⟩
            case round =>
              obtain ⟨n, M, rfl, hn, hn0, hM, HS⟩ := hrel
              clear HSM
              cases gk with
              | zero =>
                have hlt : ¬ ((n : Int) < (nm : Int)) := by omega
                have htp : (0 : Int) < (t : Int) := by omega
                obtain rfl : nm = M.length := by omega
                obtain rfl : n = M.length := by omega
                go_wp2_with fail
                go_roundg kq
                case measure => omega
                case rel => exact ⟨t + 1, _, _, _, _, M, F1, rfl, by rw [HF3.out.1], by go_num, by omega, ⟨⟨by rw [HF3.out.1]; exact HS.out.2, by omega, by rw [if_neg (by omega), show 3 * (t + 1) = M.length from by omega]; exact HS.out.1, by rw [HF3.out.1, if_neg (by omega)], HF3.out.2⟩⟩⟩
              | succ kn =>
                have hlt : (n : Int) < (nm : Int) := by omega
                by_cases ht0 : t = 0
                · first
                  | exact absurd ht0 (by omega)
                  | (obtain rfl := hn0 ht0
                     have htp : ¬ (0 : Int) < (t : Int) := by omega
                     obtain rfl : nm = M.length := by omega
                     go_wp2_with fail
                     go_roundg kq
                     case measure => omega
                     case rel => exact ⟨t + 1, _, _, _, _, M, F1, rfl, by rw [HF3.out.1], by go_num, by omega, ⟨⟨by rw [HF3.out.1]; exact HS.out.2, by omega, by rw [if_pos (by omega)]; exact HS.out.1, by rw [HF3.out.1, if_neg (by omega)], HF3.out.2⟩⟩⟩)
                have htp : (0 : Int) < (t : Int) := by omega
                obtain ⟨p, hp⟩ : ∃ p, M[n]? = some p := ⟨_, List.getElem?_eq_getElem (by omega)⟩
                have hpr := HS.out.2.B.1 p (List.mem_append_left _ (List.mem_of_getElem? hp))
                have hpo := HS.out.1 n p hp
                rw [if_neg (Nat.lt_irrefl n)] at hpo
                have hpl := orig_len b v n
                obtain ⟨pv, X⟩ := p
                simp only at hpo
                rw [← hpo] at hpl
                obtain ⟨gp, cp, rfl, -, -, -⟩ := Kd.R_form (v := pv) (xs := X) hpr (by omega)
                have hn9 : n < 9 := by omega
                have HP := Aside0.mk (And.intro hp hpo)
                clear hp hpr hpo
                go_wp2_with fail
                go_loopg [18] X.length (fun kw ww wr => ∃ k : Nat, ww = .int .i64 (k : Int) ∧ k + kw = X.length ∧ Aside0 (St w wr [(.slice (some ⟨ga, 0, none⟩) nm cm, heads M), (.slice Af1 3 cf1, heads F1)] (M.set n (.slice (some ⟨gp, 0, none⟩) X.length cp, List.replicate k (100 + (n : Int)) ++ X.drop k) ++ (.slice Au (b.length + 2) cu, b ++ [77, 88]) :: F1)))
                case atStart => exact ⟨0, rfl, by omega, ⟨by rw [List.drop_zero, List.replicate_zero, List.nil_append, set_self HP.out.1]; exact HS.out.2⟩⟩
                case round =>
                  obtain ⟨k, rfl, hk, HW1⟩ := hrel
                  have hnM : n < (M.set n (Value.slice (some ⟨gp, 0, none⟩) X.length cp, List.replicate k (100 + (n : Int)) ++ X.drop k)).length := by rw [List.length_set]; omega
                  have hMn : (M.set n (Value.slice (some ⟨gp, 0, none⟩) X.length cp, List.replicate k (100 + (n : Int)) ++ X.drop k))[n]? = some (Value.slice (some ⟨gp, 0, none⟩) X.length cp, List.replicate k (100 + (n : Int)) ++ X.drop k) := by rw [List.getElem?_set_self (by omega)]
                  have hhd := heads_set M n _ X (List.replicate k (100 + (n : Int)) ++ X.drop k) HP.out.1
                  have hHr := HW1.out.H.row (i := 0) rfl
                  rw [← hhd] at hHr
                  obtain ⟨ga', hga, hc1, -⟩ := hHr.cellH hMn rfl
                  obtain rfl : ga = ga' := by injection hga with hga; injection hga
                  have hXr := HW1.out.B.1 _ (List.mem_append_left _ (List.mem_of_getElem? hMn))
                  clear hHr hga hnM hMn hhd
                  cases gk with
                  | zero =>
                    obtain rfl : k = X.length := by omega
                    have hlk : ¬ ((X.length : Int) < (X.length : Int)) := by omega
                    clear hXr
                    go_wp2_with fail
                    go_roundg kn
                    case measure => omega
                    case rel => exact ⟨n + 1, M.set n (Value.slice (some ⟨gp, 0, none⟩) X.length cp, List.replicate X.length (100 + (n : Int)) ++ X.drop X.length), by go_num, by omega, fun h => absurd h ht0, by rw [List.length_set]; exact hM, ⟨HS.out.1.mark HP.out.2, by rw [heads_set M n _ X _ HP.out.1]; exact HW1.out⟩⟩
                  | succ kw =>
                    have hlk : (k : Int) < (X.length : Int) := by omega
                    obtain ⟨xk, hxk⟩ : ∃ x, (List.replicate k (100 + (n : Int)) ++ X.drop k)[k]? = some x := ⟨_, List.getElem?_eq_getElem (by simp; omega)⟩
                    obtain ⟨gp', hgp, hc2, hf2⟩ := hXr.cellB hxk
                    obtain rfl : gp = gp' := by injection hgp with hgp; injection hgp
                    clear hXr hgp hxk
                    go_wp2_with fail
                    go_roundg kw
                    case measure => omega
                    case rel => exact ⟨k + 1, by go_num, by omega, ⟨HW1.out.fill (by omega) (by omega)⟩⟩
          · go_wp2_with ((with_reducible refine gate_builtin (b := .append) (xs := #[.tmp 111, .tmp 112]) rfl ?_); at_builtin; refine Kd.R_append_rows kH (w0 := w) w.heap.size rfl (.tmp 111) (.tmp 112) 32 22 (.slice none 0 0) 24 rfl Try.underlying32 infoH rfl (by decide) (by omega) (.slice Al L.length ca) (heads L) (heads N) _ _ _ (fun _ => True) (fun _ => False) rfl rfl ?aO ?aR (fun _ _ h => h) (fun _ h => h.elim) ?aF ?aB ?aS ?aL ?_; (case aO => exact HS.out.2.H.row (i := 0) rfl); (case aR => (have h9 := (HS.out.2.H.row (i := 2) rfl).len_.2.2); rw [hN3] at h9; exact h9); (case aF => exact fun _ _ => trivial); (case aB => exact HS.out.2.K); (case aS => exact HS.out.2.K.size); (case aL => rw [heads_len]; have := HL.out.1; omega); intro vm wm hom hbm hgm hatm; (have HSm := Aside0.mk (And.intro HS.out.1 (HS.out.2.setH (i := 0) (q := (vm, heads L ++ heads N)) rfl hgm hom hatm))); (have hposm := Kd.R_form hom (by rw [List.length_append, hN3]; omega)); (obtain ⟨ga, cm, rfl, -, -, -⟩ := hposm); (rw [show (heads L ++ heads N).length = L.length + 3 from by rw [List.length_append, hN3, heads_len]] at HSm ⊢); (rw [← hnm] at HSm ⊢); clear hnm; clear HS hbm hgm hatm hom)
            have hF3 : F1.length = 3 := by rw [hF1]; split <;> rfl
            have HSM := Aside0.mk (And.intro (HL.out.2.1.app HL.out.1 (by split <;> omega) HN.out) (show St w wm [(.slice (some ⟨ga, 0, none⟩) nm cm, heads (L ++ N)), (.slice Af1 3 cf1, heads F1)] ((L ++ N) ++ (.slice Au (b.length + 2) cu, b ++ [77, 88]) :: F1) from by
              have h9 := HSm.out.2
              rw [hF3] at h9
              rw [heads_app]
              exact St.leftH (H2 := [(_, heads N)]) h9))
            have HF3 := Aside0.mk (And.intro hF3 HSm.out.1)
            clear HSm hF1
            go_loopg [17, 18] (3 * (t + 1) - L.length) (fun kn nn x18 wr => ∃ (n : Nat) (M : List (Value × List Int)), nn = .int .i64 (n : Int) ∧ n + kn = 3 * (t + 1) ∧ (t = 0 → n = 0) ∧ (M.length ≤ 3 * (t + 1) ∧ 3 * (t + 1) ≤ M.length) ∧ Aside0 (Ct b v n M ∧ St w wr [(.slice (some ⟨ga, 0, none⟩) nm cm, heads M), (.slice Af1 3 cf1, heads F1)] (M ++ (.slice Au (b.length + 2) cu, b ++ [77, 88]) :: F1)))
            case atStart => exact ⟨L.length, L ++ N, by first | rfl | (congr 1; omega), by have := HL.out.1; omega, fun _ => by have := HL.out.1; omega, by rw [List.length_append, hNl, HL.out.1]; omega, ⟨by have h9 := HSM.out.1; have e9 : (if t ≤ 1 then 0 else 3 * t) = L.length := (by have := HL.out.1; split <;> omega); rw [e9] at h9; exact h9, HSM.out.2⟩⟩
            case round =>
              obtain ⟨n, M, rfl, hn, hn0, hM, HS⟩ := hrel
              clear HSM
              cases gk with
              | zero =>
                have hlt : ¬ ((n : Int) < (nm : Int)) := by omega
                have htp : (0 : Int) < (t : Int) := by omega
                obtain rfl : nm = M.length := by omega
                obtain rfl : n = M.length := by omega
                go_wp2_with fail
                go_roundg kq
                case measure => omega
                case rel => exact ⟨t + 1, _, _, _, _, M, F1, rfl, by rw [HF3.out.1], by go_num, by omega, ⟨⟨by rw [HF3.out.1]; exact HS.out.2, by omega, by rw [if_neg (by omega), show 3 * (t + 1) = M.length from by omega]; exact HS.out.1, by rw [HF3.out.1, if_neg (by omega)], HF3.out.2⟩⟩⟩
              | succ kn =>
                have hlt : (n : Int) < (nm : Int) := by omega
                by_cases ht0 : t = 0
                · first
                  | exact absurd ht0 (by omega)
                  | (obtain rfl := hn0 ht0
                     have htp : ¬ (0 : Int) < (t : Int) := by omega
                     obtain rfl : nm = M.length := by omega
                     go_wp2_with fail
                     go_roundg kq
                     case measure => omega
                     case rel => exact ⟨t + 1, _, _, _, _, M, F1, rfl, by rw [HF3.out.1], by go_num, by omega, ⟨⟨by rw [HF3.out.1]; exact HS.out.2, by omega, by rw [if_pos (by omega)]; exact HS.out.1, by rw [HF3.out.1, if_neg (by omega)], HF3.out.2⟩⟩⟩)
                have htp : (0 : Int) < (t : Int) := by omega
                obtain ⟨p, hp⟩ : ∃ p, M[n]? = some p := ⟨_, List.getElem?_eq_getElem (by omega)⟩
                have hpr := HS.out.2.B.1 p (List.mem_append_left _ (List.mem_of_getElem? hp))
                have hpo := HS.out.1 n p hp
                rw [if_neg (Nat.lt_irrefl n)] at hpo
                have hpl := orig_len b v n
                obtain ⟨pv, X⟩ := p
                simp only at hpo
                rw [← hpo] at hpl
                obtain ⟨gp, cp, rfl, -, -, -⟩ := Kd.R_form (v := pv) (xs := X) hpr (by omega)
                have hn9 : n < 9 := by omega
                have HP := Aside0.mk (And.intro hp hpo)
                clear hp hpr hpo
                go_wp2_with fail
                go_loopg [18] X.length (fun kw ww wr => ∃ k : Nat, ww = .int .i64 (k : Int) ∧ k + kw = X.length ∧ Aside0 (St w wr [(.slice (some ⟨ga, 0, none⟩) nm cm, heads M), (.slice Af1 3 cf1, heads F1)] (M.set n (.slice (some ⟨gp, 0, none⟩) X.length cp, List.replicate k (100 + (n : Int)) ++ X.drop k) ++ (.slice Au (b.length + 2) cu, b ++ [77, 88]) :: F1)))
                case atStart => exact ⟨0, rfl, by omega, ⟨by rw [List.drop_zero, List.replicate_zero, List.nil_append, set_self HP.out.1]; exact HS.out.2⟩⟩
                case round =>
                  obtain ⟨k, rfl, hk, HW1⟩ := hrel
                  have hnM : n < (M.set n (Value.slice (some ⟨gp, 0, none⟩) X.length cp, List.replicate k (100 + (n : Int)) ++ X.drop k)).length := by rw [List.length_set]; omega
                  have hMn : (M.set n (Value.slice (some ⟨gp, 0, none⟩) X.length cp, List.replicate k (100 + (n : Int)) ++ X.drop k))[n]? = some (Value.slice (some ⟨gp, 0, none⟩) X.length cp, List.replicate k (100 + (n : Int)) ++ X.drop k) := by rw [List.getElem?_set_self (by omega)]
                  have hhd := heads_set M n _ X (List.replicate k (100 + (n : Int)) ++ X.drop k) HP.out.1
                  have hHr := HW1.out.H.row (i := 0) rfl
                  rw [← hhd] at hHr
                  obtain ⟨ga', hga, hc1, -⟩ := hHr.cellH hMn rfl
                  obtain rfl : ga = ga' := by injection hga with hga; injection hga
                  have hXr := HW1.out.B.1 _ (List.mem_append_left _ (List.mem_of_getElem? hMn))
                  clear hHr hga hnM hMn hhd
                  cases gk with
                  | zero =>
                    obtain rfl : k = X.length := by omega
                    have hlk : ¬ ((X.length : Int) < (X.length : Int)) := by omega
                    clear hXr
                    go_wp2_with fail
                    go_roundg kn
                    case measure => omega
                    case rel => exact ⟨n + 1, M.set n (Value.slice (some ⟨gp, 0, none⟩) X.length cp, List.replicate X.length (100 + (n : Int)) ++ X.drop X.length), by go_num, by omega, fun h => absurd h ht0, by rw [List.length_set]; exact hM, ⟨HS.out.1.mark HP.out.2, by rw [heads_set M n _ X _ HP.out.1]; exact HW1.out⟩⟩
                  | succ kw =>
                    have hlk : (k : Int) < (X.length : Int) := by omega
                    obtain ⟨xk, hxk⟩ : ∃ x, (List.replicate k (100 + (n : Int)) ++ X.drop k)[k]? = some x := ⟨_, List.getElem?_eq_getElem (by simp; omega)⟩
                    obtain ⟨gp', hgp, hc2, hf2⟩ := hXr.cellB hxk
                    obtain rfl : gp = gp' := by injection hgp with hgp; injection hgp
                    clear hXr hgp hxk
                    go_wp2_with fail
                    go_roundg kw
                    case measure => omega
                    case rel => exact ⟨k + 1, by go_num, by omega, ⟨HW1.out.fill (by omega) (by omega)⟩⟩
        | succ kr =>
          have hlt : (k : Int) < 3 := by omega
          obtain ⟨p, hp⟩ : ∃ p, N[k]? = some p := ⟨_, List.getElem?_eq_getElem (by omega)⟩
          have hpo := HN.out k p hp
          rw [if_neg (Nat.not_lt_zero k)] at hpo
          have hpl := orig_len b v k
          have hpr := HS.out.2.B.1 p (List.mem_append_left _ (List.mem_append_right _ (List.mem_of_getElem? hp)))
          obtain ⟨pv, X⟩ := p
          simp only at hpo
          rw [← hpo] at hpl
          obtain ⟨Ap, cp, rfl⟩ := Kd.R_slice (v := pv) (xs := X) hpr
          obtain ⟨gt', hgt, hc1, -⟩ := (HS.out.2.H.row (i := 2) rfl).cellH hp rfl
          obtain rfl : gt = gt' := by injection hgt with hgt; injection hgt
          have HP := Aside0.mk (And.intro hp (And.intro hpo hpr))
          clear hp hpo hpr hgt
          by_cases ht : t = 0
          · rw [if_pos ht] at hF1
            subst ht
            have hFle : F1.length ≤ 3 := by omega
            have HFk := Aside0.mk hF1
            have hc1' := pw_cell_below (below_alloc (Below.refl wr.heap.size wr) (.cells #[] 5)) hc1
            clear hF1
            have hwr : w.heap.size ≤ wr.heap.size := HS.out.2.K.size
            go_wp2_with (first
              | ((with_reducible refine gate_builtin (b := .append) (xs := #[.tmp 91, .tmp 95]) rfl ?_); at_builtin; refine Kd.R_append_rows kB (w0 := wr) wr.heap.size rfl (.tmp 91) (.tmp 95) 22 5 (.int .u8 0) 1 rfl Try.underlying22 info5 rfl (by decide) (by omega) (.slice (some ⟨wr.heap.size, 0, none⟩) 0 0) [] X _ _ _ (fun _ => True) (fun _ => False) rfl rfl ?aO ?aR (fun _ _ h => h) (fun _ h => h.elim) ?aF ?aB ?aS ?aL ?_; (case aO => exact row_empty wr); (case aR => exact Kd.C_alloc HP.out.2.2.len_.2.2 _); (case aF => exact fun _ _ => trivial); (case aB => exact below_alloc (Below.refl _ _) _); (case aS => exact (below_alloc (Below.refl _ _) _).size); (case aL => show (0 + X.length) * 1 ≤ _; omega); intro v7 w7 ho7 hb7 hg7 hat7; rw [List.nil_append] at ho7; obtain ⟨A7, c7, e7⟩ := Kd.R_slice ho7; subst e7; have HS7 := Aside0.mk (HS.out.2.madeB (W1 := w7) ⟨ho7, hb7⟩); clear ho7 hb7 hg7 hat7)
              | ((with_reducible refine gate_builtin (b := .append) (xs := #[.tmp 90, .tmp 97]) rfl ?_); at_builtin; refine Kd.R_append kH (w0 := w) w.heap.size rfl (.tmp 90) (.tmp 97) 32 22 (.slice none 0 0) 24 rfl Try.underlying32 infoH rfl (by decide) (by omega) (.slice Af1 F1.length cf1) (heads F1) (A7, X.length, c7) [.slice A7 X.length c7] (fun _ => True) (fun _ => False) rfl rfl ?aP ?aK ?aF ?aO ?aB ?aS ?aL ?_; (case aP => rfl); (case aK => exact fun _ h => h.elim); (case aF => exact fun _ _ => trivial); (case aO => exact HS7.out.H.row (i := 1) rfl); (case aB => exact HS7.out.K); (case aS => exact HS7.out.K.size); (case aL => rw [heads_len]; omega); intro v8 w8 ho8 hb8 hg8 hat8; have HS8 := Aside0.mk (HS7.out.setH (i := 1) (q := (v8, heads F1 ++ [(A7, X.length, c7)])) rfl hg8 ho8 hat8); obtain ⟨A8, c8, e8⟩ := Kd.R_slice ho8; subst e8; clear ho8 hb8 hg8 hat8))
            go_roundg kr
            case measure => omega
            case rel => exact ⟨k + 1, A8, c8, F1 ++ [(.slice A7 X.length c7, X)], by simp [heads_len], by go_num, by omega, by simp [HFk.out], ⟨by
                intro i q hq
                rw [if_neg (Nat.not_lt_zero i)]
                by_cases hi : i < F1.length
                · rw [List.getElem?_append_left hi] at hq
                  exact HS.out.1 i q hq
                · rw [List.getElem?_append_right (by omega)] at hq
                  have hi0 : i - F1.length = 0 := by
                    have := (List.getElem?_eq_some_iff.1 hq).1
                    simp at this
                    omega
                  rw [hi0] at hq
                  obtain rfl : i = k := by have := HFk.out; omega
                  rw [← Option.some.inj hq, HP.out.2.1], by
                have h9 := HS8.out
                rw [List.append_assoc, List.cons_append] at h9
                simp only [heads_app, List.length_append, heads_len] at h9 ⊢
                exact h9⟩⟩
          · rw [if_neg ht] at hF1
            obtain ⟨q, hq⟩ : ∃ q, F1[k]? = some q := ⟨_, List.getElem?_eq_getElem (by omega)⟩
            have hqo := HS.out.1 k q hq
            rw [if_neg (Nat.not_lt_zero k)] at hqo
            have hqr := HS.out.2.B.1 q (List.mem_append_right _ (List.mem_cons_of_mem _ (List.mem_of_getElem? hq)))
            obtain ⟨qv, Y⟩ := q
            simp only at hqo
            obtain ⟨Aq, cq, rfl⟩ := Kd.R_slice (v := qv) (xs := Y) hqr
            obtain ⟨gf, hgf, hc2, -⟩ := (HS.out.2.H.row (i := 1) rfl).cellH hq rfl
            obtain rfl : Af1 = some ⟨gf, 0, none⟩ := hgf
            have HQ := Aside0.mk (And.intro hqr (show Y = X from hqo.trans HP.out.2.1.symm))
            have htn : ¬ ((t : Int) = 0) := by omega
            have hltF : (k : Int) < (F1.length : Int) := by omega
            have hXl : X.length ≤ 1048600 := by omega
            clear hq hqo hqr
            go_wp2_with fail
            go_quiet ((go_at_call 8; refine (same_ok Ap cp X _ (Kd.C_drewN HP.out.2.2.len_.2.2 _) HP.out.2.2.len_.2.1 hXl Aq cq Y (Kd.C_drewN HQ.out.1.len_.2.2 _) HQ.out.1.len_.2.1 HQ.out.2).mono ?_; rintro e w' ⟨rfl, ⟨nd, rfl⟩⟩; exact ⟨rfl, _, World.drewN_drewN _ _ _⟩))
            go_wp2_with fail
            go_roundg kr
            case measure => omega
            case rel => exact ⟨k + 1, some ⟨gf, 0, none⟩, cf1, F1, by simp [hF1], by go_num, by omega, by rw [if_neg ht]; exact hF1, ⟨HS.out.1, HS.out.2.drewN _⟩⟩
end Go.Proofs.Ytenomaibgpbonaa.Tree
