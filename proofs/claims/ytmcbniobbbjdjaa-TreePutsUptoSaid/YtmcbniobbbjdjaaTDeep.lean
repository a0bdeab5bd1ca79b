/- What stands at a path of a tree whose lists lie apart is written over: the tree with another geometry there. No conditions but those told. -/
import Derived.Test.YtmcbniobbbjdjaaTPutSem
namespace Go.Proofs.Ytmcbniobbbjdjaa.Tree
open Go.RowKit Go.Proofs.YtmcbniobbbjdjaaW.PrintWords Go.Proofs.YtmcbniobbbjdjaaW.PrintLast Go.Proofs.YtmcbniobbbjdjaaW.PrintMore
set_option linter.unusedVariables false
set_option linter.unusedSimpArgs false
theorem Way.nil_of {w : World} {ad ad' : Addr} (h : Way w ad [] ad') : ad' = ad := by cases h; rfl
theorem Way.cons_of {w : World} {ad ad' : Addr} {i : Int} {q : List Int} (h : Way w ad (i :: q) ad') : ∃ B n c, w.cell? ⟨ad.block, ad.off + 3, none⟩ = some (.slice (some B) n c) ∧ 0 ≤ i ∧ i < (n : Int) ∧ Way w (B.add (i.toNat * 4)) q ad' := by
  cases h with
  | cons h h0 h1 t => exact ⟨_, _, _, h, h0, h1, t⟩
theorem S_own1 {α : Type} {d : Kd α} {e base : Nat} {ok : Nat → Prop} {w : World} {g n c : Nat} {xs : List α} (h : Kd.S d e w base ok (.slice (some ⟨g, 0, none⟩) n c) xs) : ok g ∧ base ≤ g :=
  ⟨(Kd.S_R h).1 g (by simp [Value.ownBlock]), Kd.S_base h g (by simp [Value.ownBlock])⟩
set_option maxHeartbeats 1000000 in
theorem put_deep (W : World) (base : Nat) (okp : Nat → Prop) (p h : Ge) (cp : List Value) : ∀ (q : List Int) (i : Int) (g : Ge) (m b o : Nat) (cs : List Value) (ok : Nat → Prop) (ad' : Addr),
    (kSp (m + q.length + 1)).M W base ok g cs → (∀ j u, cs[j]? = some u → W.cell? ⟨b, o + j, none⟩ = some u) → at_ g (i :: q) = some h → Way W ⟨b, o, none⟩ (i :: q) ad' →
    (kSp m).M W base okp p cp → (∀ k, okp k → ¬ ok k) → (∀ k, okp k → base ≤ k) →
    ad' = ⟨ad'.block, ad'.off, none⟩ ∧ ok ad'.block ∧ base ≤ ad'.block ∧ (∀ j, W.frozen? ⟨ad'.block, ad'.off + j, none⟩ = false) ∧ (∃ c : List Value, c.length = 4 ∧ ∀ j u, c[j]? = some u → W.cell? ⟨ad'.block, ad'.off + j, none⟩ = some u) ∧
      (kSp (m + q.length + 1)).M (W.setCells ad'.block ad'.off cp) base (fun k => ok k ∨ okp k) (putG g (i :: q) p) cs ∧ W.grownBy (W.setCells ad'.block ad'.off cp) (some ad'.block) := by
  intro q
  induction q with
  | nil =>
    intro i g m b o cs ok ad' hM hc ha hw hp hd hb
    obtain ⟨hi, _⟩ := at_cons ha
    rw [List.length_nil, Nat.add_zero, kSp_M] at hM
    obtain ⟨v1, v2, v3, ok1, ok2, ok3, rfl, a1, a2, a3, b1, b2, b3, h1, h2, h3⟩ := hM
    obtain ⟨B, n, c, hcell, hi0, hi1, hw'⟩ := hw.cons_of
    have hv := hc 3 v3 rfl
    have hv3 : v3 = .slice (some B) n c := by
      have : W.cell? ⟨b, o + 3, none⟩ = some (.slice (some B) n c) := hcell
      rw [hv] at this
      injection this
    subst hv3
    obtain ⟨g3, rfl⟩ := Kd.R_head (Kd.S_R h3)
    obtain ⟨hok3, hbase3⟩ := S_own1 h3
    have hn := (Kd.S_reads' h3).1
    obtain rfl := hw'.nil_of
    have e0 : (⟨g3, 0, none⟩ : Addr).add (i.toNat * 4) = ⟨g3, i.toNat * 4, none⟩ := by rw [add_plain]
    rw [e0]
    have h3' : Kd.S (kSp m) 26 W base (fun k => (ok3 k ∨ okp k) ∧ ¬ okp k) (.slice (some ⟨g3, 0, none⟩) n c) g.f3 := Kd.S_mono h3 (fun k hk => ⟨.inl hk, fun hp => hd k hp (a3 k hk)⟩)
    obtain ⟨oki, cc, hcl, hMi, hci, hfr, hoki, hH⟩ := Kd.S_elem h3' zGe i hi0 hi1
    rw [kSp_sz] at hcl hci hfr
    have hlen : cp.length = 4 := by rw [← kSp_sz m]; exact (kSp m).K_len ((kSp m).K_of_M hp)
    have hseg := Kd.S_seg (okg := okp) (okp := okp) (seg := cp) (j := 0) (x' := p) hH hi0 hi1 (by rw [kSp_sz, hlen]; omega) (by rw [hlen, List.take_zero, List.nil_append, List.drop_eq_nil_of_le (by omega), List.append_nil]; exact hp) (fun k hk => .inr hk) (fun k hk => ⟨.inr hk, fun e => hd k hk (a3 k (e ▸ hok3))⟩)
    rw [kSp_sz, Nat.add_zero] at hseg
    obtain ⟨hS, hg⟩ := hseg
    have hfar : ∀ k, k ≠ g3 → (W.setCells g3 (i.toNat * 4) cp).heap[k]? = W.heap[k]? := fun k hk => setCells_far cp _ k hk
    refine ⟨rfl, a3 _ hok3, hbase3, hfr, ⟨cc, hcl, hci⟩, ?_, hg⟩
    rw [List.length_nil, Nat.add_zero, kSp_M, putG_cons, putG_nil]
    refine ⟨v1, v2, _, ok1, ok2, fun k => ok3 k ∨ okp k, rfl, fun k hk => .inl (a1 k hk), fun k hk => .inl (a2 k hk), fun k hk => hk.elim (fun h => .inl (a3 k h)) .inr, b1, ?_, ?_, ?_, ?_, hS⟩
    · exact fun k hk hk' => hk'.elim (fun h => b2 k hk h) (fun h => hd k h (a1 k hk))
    · exact fun k hk hk' => hk'.elim (fun h => b3 k hk h) (fun h => hd k h (a2 k hk))
    · exact Kd.R_move h1 (fun k hk => hfar k (fun e => b2 k hk (e ▸ hok3)))
    · exact Kd.S_move h2 (fun k hk => hfar k (fun e => b3 k hk (e ▸ hok3)))
  | cons i2 q ih =>
    intro i g m b o cs ok ad' hM hc ha hw hp hd hb
    obtain ⟨hi, ha'⟩ := at_cons ha
    have e1 : m + (i2 :: q).length + 1 = (m + q.length + 1) + 1 := by rw [List.length_cons]; omega
    rw [e1, kSp_M] at hM
    obtain ⟨v1, v2, v3, ok1, ok2, ok3, rfl, a1, a2, a3, b1, b2, b3, h1, h2, h3⟩ := hM
    obtain ⟨B, n, c, hcell, hi0, hi1, hw'⟩ := hw.cons_of
    have hv := hc 3 v3 rfl
    have hv3 : v3 = .slice (some B) n c := by
      have : W.cell? ⟨b, o + 3, none⟩ = some (.slice (some B) n c) := hcell
      rw [hv] at this
      injection this
    subst hv3
    obtain ⟨g3, rfl⟩ := Kd.R_head (Kd.S_R h3)
    obtain ⟨hok3, hbase3⟩ := S_own1 h3
    have hn := (Kd.S_reads' h3).1
    rw [add_plain] at hw'
    have h3' : Kd.S (kSp (m + q.length + 1)) 26 W base (fun k => (ok3 k ∨ okp k) ∧ ¬ okp k) (.slice (some ⟨g3, 0, none⟩) n c) g.f3 := Kd.S_mono h3 (fun k hk => ⟨.inl hk, fun hp => hd k hp (a3 k hk)⟩)
    obtain ⟨oki, cc, hcl, hMi, hci, hfr, hoki, hH⟩ := Kd.S_elem h3' zGe i hi0 hi1
    rw [kSp_sz] at hcl hci hfr
    obtain ⟨k1, k2, k3, k4, k5, k6, k7⟩ := ih i2 (rd_Ge g.f3 i) m g3 (i.toNat * 4) cc oki ad' hMi hci ha' hw' hp (fun k hk hk' => (hoki k hk').1.2 hk) hb
    have hg3 : oki ad'.block := k2
    have hne : ad'.block ≠ g3 := (hoki _ hg3).2
    have hH2 := Kd.H_more (Kd.H_grown hH k7 (fun k hk => by injection hk with hk; rw [← hk]; exact hg3)) (fun k hk => .inr hk)
    have hS := Kd.H_back hH2 k6 (fun k hk => hk)
    have hfar : ∀ k, k ≠ ad'.block → (W.setCells ad'.block ad'.off cp).heap[k]? = W.heap[k]? := fun k hk => setCells_far cp _ k hk
    have hok3' : ok3 ad'.block := by
      have h := (hoki _ hg3).1
      exact h.1.elim id (fun h2 => absurd h2 h.2)
    refine ⟨k1, a3 _ hok3', k3, k4, k5, ?_, k7⟩
    rw [e1, kSp_M, putG_cons]
    refine ⟨v1, v2, _, ok1, ok2, fun k => ok3 k ∨ okp k, rfl, fun k hk => .inl (a1 k hk), fun k hk => .inl (a2 k hk), fun k hk => hk.elim (fun h => .inl (a3 k h)) .inr, b1, ?_, ?_, ?_, ?_, hS⟩
    · exact fun k hk hk' => hk'.elim (fun h => b2 k hk h) (fun h => hd k h (a1 k hk))
    · exact fun k hk hk' => hk'.elim (fun h => b3 k hk h) (fun h => hd k h (a2 k hk))
    · exact Kd.R_move h1 (fun k hk => hfar k (fun e => b2 k hk (e ▸ hok3')))
    · exact Kd.S_move h2 (fun k hk => hfar k (fun e => b3 k hk (e ▸ hok3')))
end Go.Proofs.Ytmcbniobbbjdjaa.Tree
