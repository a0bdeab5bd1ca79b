/- Texts of this claim laid one behind the other (TRing; TGeomS; TGeomP): what each proves stands at its own names; the last one is the claim's. No conditions but those told. -/
import Derived.Test.YtiiolhnpnlmkjaaDoorZCnd
import Derived.RangeFuncRecord
namespace Go.Proofs.YtiiolhnpnlmkjaaDoor.Tree
open Go.RowKit Go.Proofs.YtiiolhnpnlmkjaaDoor.PWkbPrints Go.Proofs.YtiiolhnpnlmkjaaDoorW.PrintWords Go.Proofs.YtiiolhnpnlmkjaaDoorW.PrintLast Go.Proofs.YtiiolhnpnlmkjaaDoorW.PrintMore Go.Proofs.YtiiolhnpnlmkjaaDoor.Rdr
attribute [local go_sem] Oper.semAt_some max2_int max_two min2_int min_two
/-- What ring makes of the bytes at a place. -/
def ringR (b : List Int) (a : Nat) (le : Bool) : Except (Int × Int) (List Pt) :=
  if b.length < a + 4 then .error (a, 160) else if numB b a 4 le % 4294967296 = 0 then .error (a, 176) else
    if b.length < a + 4 + 16 * (numB b a 4 le % 4294967296).toNat then .error (a, 173) else pointsR b (a + 4) le (numB b a 4 le % 4294967296).toNat
theorem ptsAt_len (b : List Int) (a : Nat) (le : Bool) (n : Nat) : (ptsAt b a le n).length = n := by simp [ptsAt]
theorem pointsR_len {b : List Int} {a : Nat} {le : Bool} {n : Nat} {l : List Pt} (h : pointsR b a le n = .ok l) : l.length = n := by
  unfold pointsR at h
  split at h
  · injection h
  · injection h with h
    rw [← h, ptsAt_len]
set_option maxRecDepth 100000 in
set_option maxHeartbeats 16000000 in
theorem ring_calls (w0 W : World) (gp gr : Nat) (b : List Int) (a : Nat) (deep : Int) (vo : Value) (os : List Bool) (le : Bool) (h : Ps w0 W gp gr b a deep vo os) :
    Calls Tryd.prog 95 #[.pointer (some ⟨gp, 0, none⟩), .bool le] W fun e W' => ∃ a', a ≤ a' ∧ Ps w0 W' gp gr b a' deep vo os ∧ Pv W W' gp gr vo vo ∧ Res (ringR b a le) e (fun l => ∃ u, e = .returned u ∧ kPt.R 82 W' W.heap.size (fun _ => True) u l ∧ a' = a + 4 + 16 * l.length ∧ 0 < l.length) := by
  have HP := Aside0.mk h
  have hl := h.l
  have z0_ : W.cell? ⟨gp, 0, none⟩ = some (.pointer (some ⟨gr, 0, none⟩)) := (blk_cell h.c 0).trans rfl
  clear h
  unfold ringR
  by_cases h4 : b.length < a + 4
  · rw [if_pos h4]
    go_enter Tryd.func95, Tryd.ntmps95
    go_wp2_with fail
    refine (at_ok HP.out).mono ?_
    rintro e W1 ⟨rfl, hp_, hv_⟩
    have H1 := Aside0.mk (And.intro hp_ hv_)
    have z0_ : W1.cell? ⟨gp, 0, none⟩ = some (.pointer (some ⟨gr, 0, none⟩)) := (blk_cell hp_.c 0).trans rfl
    clear hp_ hv_ HP
    go_wp2_with fail
    refine (need_calls w0 _ gp gr b a deep vo os 4 H1.out.1).mono ?_
    rintro e W2 ⟨he_, hp_, hv_⟩
    rw [if_pos h4] at he_
    subst he_
    have H2 := Aside0.mk (And.intro hp_ (H1.out.2.trans hv_))
    clear hp_ hv_ H1
    go_wp2_with fail
    exact ⟨rfl, a, Nat.le_refl _, H2.out.1, H2.out.2, Res.bad rfl⟩
  rw [if_neg h4]
  obtain ⟨m, hm⟩ : ∃ m : Nat, (m : Int) = numB b a 4 le % 4294967296 := ⟨(numB b a 4 le % 4294967296).toNat, by omega⟩
  have hm2 : m < 4294967296 := by omega
  rw [← hm, Int.toNat_natCast]
  have HM := Aside0.mk hm
  clear hm
  by_cases hm0 : m = 0
  · have hm0' : ((m : Int) == 0) = true := by rw [hm0]; rfl
    rw [if_pos (by omega)]
    clear hm0
    go_enter Tryd.func95, Tryd.ntmps95
    go_wp2_with fail
    refine (at_ok HP.out).mono ?_
    rintro e W1 ⟨rfl, hp_, hv_⟩
    have H1 := Aside0.mk (And.intro hp_ hv_)
    have z0_ : W1.cell? ⟨gp, 0, none⟩ = some (.pointer (some ⟨gr, 0, none⟩)) := (blk_cell hp_.c 0).trans rfl
    clear hp_ hv_ HP
    go_wp2_with fail
    refine (need_calls w0 _ gp gr b a deep vo os 4 H1.out.1).mono ?_
    rintro e W2 ⟨he_, hp_, hv_⟩
    rw [if_neg h4] at he_
    subst he_
    have H2 := Aside0.mk (And.intro hp_ (H1.out.2.trans hv_))
    have z0_ : W2.cell? ⟨gp, 0, none⟩ = some (.pointer (some ⟨gr, 0, none⟩)) := (blk_cell hp_.c 0).trans rfl
    clear hp_ hv_ H1
    go_wp2_with fail
    refine (word32_ok le H2.out.1 (by omega)).mono ?_
    rintro e W3 ⟨rfl, hp_, hv_⟩
    have H3 := Aside0.mk (And.intro hp_ (H2.out.2.trans hv_))
    have z0_ : W3.cell? ⟨gp, 0, none⟩ = some (.pointer (some ⟨gr, 0, none⟩)) := (blk_cell hp_.c 0).trans rfl
    clear hp_ hv_ H2
    rw [← HM.out]
    go_wp2_with fail
    exact ⟨rfl, a + 4, by omega, H3.out.1, H3.out.2, Res.bad rfl⟩
  have hm0' : ((m : Int) == 0) = false := beq_eq_false_iff_ne.2 (by omega)
  rw [if_neg (show ¬ ((m : Int) = 0) by omega)]
  by_cases hb : b.length < a + 4 + 16 * m
  · have hb' : (b.length : Int) - ((a + 4 : Nat) : Int) < 16 * (m : Int) := by omega
    have hb2 : (b.length : Int) - ((a + 4 : Nat) : Int) < (m : Int) * 16 := by omega
    rw [if_pos hb]
    clear hm0
    go_enter Tryd.func95, Tryd.ntmps95
    go_wp2_with fail
    refine (at_ok HP.out).mono ?_
    rintro e W1 ⟨rfl, hp_, hv_⟩
    have H1 := Aside0.mk (And.intro hp_ hv_)
    have z0_ : W1.cell? ⟨gp, 0, none⟩ = some (.pointer (some ⟨gr, 0, none⟩)) := (blk_cell hp_.c 0).trans rfl
    clear hp_ hv_ HP
    go_wp2_with fail
    refine (need_calls w0 _ gp gr b a deep vo os 4 H1.out.1).mono ?_
    rintro e W2 ⟨he_, hp_, hv_⟩
    rw [if_neg h4] at he_
    subst he_
    have H2 := Aside0.mk (And.intro hp_ (H1.out.2.trans hv_))
    have z0_ : W2.cell? ⟨gp, 0, none⟩ = some (.pointer (some ⟨gr, 0, none⟩)) := (blk_cell hp_.c 0).trans rfl
    clear hp_ hv_ H1
    go_wp2_with fail
    refine (word32_ok le H2.out.1 (by omega)).mono ?_
    rintro e W3 ⟨rfl, hp_, hv_⟩
    have H3 := Aside0.mk (And.intro hp_ (H2.out.2.trans hv_))
    have z0_ : W3.cell? ⟨gp, 0, none⟩ = some (.pointer (some ⟨gr, 0, none⟩)) := (blk_cell hp_.c 0).trans rfl
    clear hp_ hv_ H2
    rw [← HM.out]
    go_wp2_with fail
    refine (left_ok H3.out.1).mono ?_
    rintro e W4 ⟨rfl, hp_, hv_⟩
    have H4 := Aside0.mk (And.intro hp_ (H3.out.2.trans hv_))
    clear hp_ hv_ H3
    go_wp2_with fail
    exact ⟨rfl, a + 4, by omega, H4.out.1, H4.out.2, Res.bad rfl⟩
  · have hb' : ¬ ((b.length : Int) - ((a + 4 : Nat) : Int) < 16 * (m : Int)) := by omega
    have hb2 : ¬ ((b.length : Int) - ((a + 4 : Nat) : Int) < (m : Int) * 16) := by omega
    rw [if_neg hb]
    clear hm0
    go_enter Tryd.func95, Tryd.ntmps95
    go_wp2_with fail
    refine (at_ok HP.out).mono ?_
    rintro e W1 ⟨rfl, hp_, hv_⟩
    have H1 := Aside0.mk (And.intro hp_ hv_)
    have z0_ : W1.cell? ⟨gp, 0, none⟩ = some (.pointer (some ⟨gr, 0, none⟩)) := (blk_cell hp_.c 0).trans rfl
    clear hp_ hv_ HP
    go_wp2_with fail
    refine (need_calls w0 _ gp gr b a deep vo os 4 H1.out.1).mono ?_
    rintro e W2 ⟨he_, hp_, hv_⟩
    rw [if_neg h4] at he_
    subst he_
    have H2 := Aside0.mk (And.intro hp_ (H1.out.2.trans hv_))
    have z0_ : W2.cell? ⟨gp, 0, none⟩ = some (.pointer (some ⟨gr, 0, none⟩)) := (blk_cell hp_.c 0).trans rfl
    clear hp_ hv_ H1
    go_wp2_with fail
    refine (word32_ok le H2.out.1 (by omega)).mono ?_
    rintro e W3 ⟨rfl, hp_, hv_⟩
    have H3 := Aside0.mk (And.intro hp_ (H2.out.2.trans hv_))
    have z0_ : W3.cell? ⟨gp, 0, none⟩ = some (.pointer (some ⟨gr, 0, none⟩)) := (blk_cell hp_.c 0).trans rfl
    clear hp_ hv_ H2
    rw [← HM.out]
    go_wp2_with fail
    refine (left_ok H3.out.1).mono ?_
    rintro e W4 ⟨rfl, hp_, hv_⟩
    have H4 := Aside0.mk (And.intro hp_ (H3.out.2.trans hv_))
    clear hp_ hv_ H3
    go_wp2_with fail
    have hmp : 0 < m := by
      rcases Nat.eq_zero_or_pos m with h0 | h0
      · rw [h0] at hm0'; cases hm0'
      · exact h0
    refine (points_calls_ w0 W4 gp gr b (a + 4) deep vo os le m H4.out.1 (by omega)).mono ?_
    rintro e W5 ⟨a5, ha5, hp5, hv5, hres⟩
    rcases hr : pointsR b (a + 4) le m with x | l
    · have he := hres.1 x hr
      subst he
      go_wp2_with fail
      exact ⟨rfl, a5, by omega, hp5, H4.out.2.trans hv5, by rw [hr]; exact Res.bad rfl⟩
    · obtain ⟨u, he, hR, ha⟩ := hres.2 l hr
      subst he
      have hlen := pointsR_len hr
      have HR5 := Aside0.mk (And.intro hp5 (And.intro (H4.out.2.trans hv5) (And.intro (Kd.R_lower hR H4.out.2.s) (And.intro ha hlen))))
      clear hp5 hv5 hR ha hlen hres
      go_wp2_with fail
      go_ret
      exact ⟨a5, by omega, HR5.out.1, HR5.out.2.1, by rw [hr]; exact Res.ok_ ⟨u, rfl, HR5.out.2.2.1, by rw [HR5.out.2.2.2.2]; exact HR5.out.2.2.2.1, by rw [HR5.out.2.2.2.2]; exact hmp⟩⟩
theorem infoPts : (Tryd.prog.info? 24).map (fun i => (i.zero, i.size, i.bytes)) = some (some (.slice none 0 0), 1, 24) := by kernel_rfl
theorem infoGe : (Tryd.prog.info? 28).map (fun i => (i.zero, i.size, i.bytes)) = some (some (.agg #[.int .i64 0, .slice none 0 0, .slice none 0 0, .slice none 0 0]), 4, 80) := by kernel_rfl
theorem infoBo : (Tryd.prog.info? 4).map (fun i => (i.zero, i.size, i.bytes)) = some (some (.bool false), 1, 1) := by kernel_rfl
/-- A tree each of whose lists lies in new memory of its own. -/
def CopyOf (n : Nat) (w w' : World) (v : Value) (g : Ge) : Prop := ∃ cs, v = .agg cs.toArray ∧ (kSp n).M w' w.heap.size (fun k => w.heap.size ≤ k) g cs
theorem results_geom {fn : Func} {a : Tmp} (h : fn.results = #[.cell a 28]) (tmps : Array Value) (w : World) {b : Nat} {q0 q1 q2 q3 : Value} (hp : tmps.getD a undef = .pointer (some ⟨b, 0, none⟩)) (hb : w.heap[b]? = some (.cells #[q0, q1, q2, q3] 28 (0, 0))) : (results fn tmps).run Tryd.prog w = .ok (.agg #[q0, q1, q2, q3]) w := by
  rw [Array.getD_eq_getD_getElem?] at hp
  have hu := Tryd.underlying28
  have c0 : w.cell? ⟨b, 0, none⟩ = some q0 := (blk_cell hb 0).trans rfl
  have c1 : w.cell? ⟨b, 1, none⟩ = some q1 := (blk_cell hb 1).trans rfl
  have c2 : w.cell? ⟨b, 2, none⟩ = some q2 := (blk_cell hb 2).trans rfl
  have c3 : w.cell? ⟨b, 3, none⟩ = some q3 := (blk_cell hb 3).trans rfl
  simp [results, h, hp, go_sem, asAddr, c0, c1, c2, c3]
/-- A call in a region that draws its order: it returns, or it gives up. -/
theorem goesP_ {P : Program} {ops : Array Oper} {Q : Exit → Act → World → Prop} {oi : Oper} {N : Option Tmp} {a : Act} {w : World} {K : Act → World → Prop} {f : FuncId} {fn : Func} {as_ : Array Operand} {ts : Array TypeId} (hf : P.funcs[f]? = some fn) (hname : (fn.name == "runtime.NumGoroutine") = false) (hb : fn.body.isSome = true) (args : Array Value)
    (hw : Region.wanted oi (yielded ops a.tmps) = true) (hN : oi.dst = N) (hop : oi.op = .call { callee := .value (.func f), args := as_, argTypes := ts }) (hargs : as_.map a.eval = args)
    (h : Calls P f args w fun e w' => (∃ v, e = .returned v ∧ K (a.put N v) w') ∨ ∃ c, e = .panicked c ∧ Q (.panic c) a w') : if Region.wanted oi (yielded ops a.tmps) = true then Oper.wp P oi a w K Q else K (a.put N undef) w := by
  rw [if_pos hw]
  subst hN
  have he := enters_ hf hname hb args w
  have hrun : (execOp a.eval oi).run P w = .ok (.enter f args) w := by
    unfold execOp
    simp [hop, resolve, Deferred.ofValue, invoke, Act.eval, hargs, he]
  unfold Oper.wp
  rw [hrun, Oper.upon_enter]
  refine h.mono fun e w'' hh => ?_
  rcases hh with ⟨v, rfl, hk⟩ | ⟨c, rfl, hk⟩
  · exact hk
  · exact hk
def ringsR (b : List Int) (le : Bool) : Nat → Nat → Except (Int × Int) (List (List Pt) × Nat)
  | 0, a => .ok ([], a)
  | m + 1, a => match ringR b a le with
    | .error e => .error e
    | .ok l => (ringsR b le m (a + 4 + 16 * l.length)).map fun r => (l :: r.1, r.2)
def partsR (f : Nat → Except (Int × Int) (Ge × Nat × List Bool)) : Nat → Nat → Except (Int × Int) (List Ge × Nat × List Bool)
  | 0, a => .ok ([], a, [])
  | m + 1, a => match f a with
    | .error e => .error e
    | .ok g => (partsR f m g.2.1).map fun r => (g.1 :: r.1, r.2.1, g.2.2 ++ r.2.2)
def geomR (b : List Int) (deep : Int) : Nat → Nat → Int → Int → Except (Int × Int) (Ge × Nat × List Bool)
  | 0, _, _, _ => .error (0, 0)
  | n + 1, a, level, home =>
    if b.length < a + 1 then .error (a, 160) else if 1 < numB b a 1 false % 256 then .error (a, 170) else if b.length < a + 1 + 4 then .error (((a + 1 : Nat) : Int), 160) else
      if numB b (a + 1) 4 (decide (numB b a 1 false % 256 = 1)) % 4294967296 < 1 ∨ 7 < numB b (a + 1) 4 (decide (numB b a 1 false % 256 = 1)) % 4294967296 then .error ((a : Int) + 1, 171) else
        if decide (home = 0 ∨ home = 7 ∨ numB b (a + 1) 4 (decide (numB b a 1 false % 256 = 1)) % 4294967296 = home - 3) = false then .error ((a : Int) + 1, 172) else if deep < level then .error (a, 191) else
          if numB b (a + 1) 4 (decide (numB b a 1 false % 256 = 1)) % 4294967296 = 1 then (placeR b (a + 1 + 4) (decide (numB b a 1 false % 256 = 1))).map fun l => (⟨numB b (a + 1) 4 (decide (numB b a 1 false % 256 = 1)) % 4294967296, l, [], []⟩, a + 1 + 4 + 16, [decide (numB b a 1 false % 256 = 1)])
          else if numB b (a + 1) 4 (decide (numB b a 1 false % 256 = 1)) % 4294967296 = 2 then match countR b (a + 1 + 4) (decide (numB b a 1 false % 256 = 1)) 16 with
            | .error e => .error e
            | .ok m => (pointsR b (a + 1 + 4 + 4) (decide (numB b a 1 false % 256 = 1)) m).map fun l => (⟨numB b (a + 1) 4 (decide (numB b a 1 false % 256 = 1)) % 4294967296, l, [], []⟩, a + 1 + 4 + 4 + 16 * m, [decide (numB b a 1 false % 256 = 1)])
          else if numB b (a + 1) 4 (decide (numB b a 1 false % 256 = 1)) % 4294967296 = 3 then match countR b (a + 1 + 4) (decide (numB b a 1 false % 256 = 1)) 20 with
            | .error e => .error e
            | .ok m => (ringsR b (decide (numB b a 1 false % 256 = 1)) m (a + 1 + 4 + 4)).map fun r => (⟨numB b (a + 1) 4 (decide (numB b a 1 false % 256 = 1)) % 4294967296, [], r.1, []⟩, r.2, [decide (numB b a 1 false % 256 = 1)])
          else match countR b (a + 1 + 4) (decide (numB b a 1 false % 256 = 1)) (if numB b (a + 1) 4 (decide (numB b a 1 false % 256 = 1)) % 4294967296 = 4 then 21 else 9) with
            | .error e => .error e
            | .ok m => (partsR (fun p => geomR b deep n p (level + 1) (numB b (a + 1) 4 (decide (numB b a 1 false % 256 = 1)) % 4294967296)) m (a + 1 + 4 + 4)).map fun r => (⟨numB b (a + 1) 4 (decide (numB b a 1 false % 256 = 1)) % 4294967296, [], [], r.1⟩, r.2.1, decide (numB b a 1 false % 256 = 1) :: r.2.2)
theorem countR_le {b : List Int} {a : Nat} {le : Bool} {least n : Nat} (h : countR b a le least = .ok n) : a + 4 + n * least ≤ b.length := by
  unfold countR at h
  split at h
  · cases h
  · split at h
    · cases h
    · injection h with h
      subst h
      omega
section
variable {w0 W W' : World} {gp gr : Nat} {b : List Int} {a a' : Nat} {deep : Int} {vo : Value} {os : List Bool}
/-- The parser, its reader and its row are none of a block of another type. -/
theorem Ps.apart (hP : Ps w0 W gp gr b a deep vo os) {k : Nat} {cs : Array Value} {q : Nat} (hc : W.heap[k]? = some (.cells cs q (0, 0))) (hq : q ≠ 133 ∧ q ≠ 171 ∧ q ≠ 4) : k ≠ gp ∧ k ≠ gr ∧ some k ≠ vo.ownBlock := by
  obtain ⟨h1, h2, h3⟩ := hq
  obtain ⟨A, c, hb, -⟩ := hP.rd
  refine ⟨?_, ?_, ?_⟩
  · rintro rfl
    rw [hP.c] at hc
    injection hc with hc
    injection hc with _ hc
    exact h1 hc.symm
  · rintro rfl
    rw [hb] at hc
    injection hc with hc
    injection hc with _ hc
    exact h2 hc.symm
  · intro hk
    obtain ⟨cs, hcs⟩ := Kd.R_typed hP.r k hk.symm
    rw [hcs] at hc
    injection hc with hc
    injection hc with _ hc
    exact h3 hc.symm
theorem Ps.apart_own (hP : Ps w0 W gp gr b a deep vo os) (e : some gp = vo.ownBlock) : False := by
  obtain ⟨cs, hcs⟩ := Kd.R_typed hP.r gp e.symm
  have := hP.c
  rw [hcs] at this
  injection this with this
  injection this with _ this
  exact absurd this (by decide)
theorem Ps.keepB {vo' : Value} (hP : Ps w0 W gp gr b a deep vo os) (hv : Pv W W' gp gr vo vo') {k : Nat} {cs : Array Value} {q : Nat} (hc : W.heap[k]? = some (.cells cs q (0, 0))) (hq : q ≠ 133 ∧ q ≠ 171 ∧ q ≠ 4) : W'.heap[k]? = some (.cells cs q (0, 0)) := by
  obtain ⟨h1, h2, h3⟩ := hP.apart hc hq
  exact (hv.k k (blk_lt hc) h1 h2 h3).trans hc
/-- Rows that lie apart stay. -/
theorem Ps.keepS {α : Type} {d : Kd α} {e base : Nat} {ok : Nat → Prop} {v : Value} {xs : List α} {vo' : Value} (hP : Ps w0 W gp gr b a deep vo os) (hv : Pv W W' gp gr vo vo') (h : Kd.S d e W base ok v xs) (he : ∀ q, q ∈ e :: d.E → q ≠ 133 ∧ q ≠ 171 ∧ q ≠ 4) : Kd.S d e W' base (fun k => ok k ∧ k < W.heap.size) v xs := by
  refine Kd.S_mono (Kd.S_step (Kd.S_bound h) ?_) (fun _ hk => ⟨hk.1, hk.2.2.1⟩)
  rintro k ⟨_, _, hlt, q, hq, cells, hc⟩ _
  exact (hP.keepB hv hc (he q hq)).trans hc.symm
/-- A row of another type grows or is written. -/
theorem Ps.grownO {row : Option Nat} (hP : Ps w0 W gp gr b a deep vo os) (hg : W.grownBy W' row) (hr : ∀ g, row = some g → w0.heap.size ≤ g ∧ ∃ q cs, W.heap[g]? = some (.cells cs q (0, 0)) ∧ q ≠ 133 ∧ q ≠ 171 ∧ q ≠ 4) : Ps w0 W' gp gr b a deep vo os := by
  have hne : ∀ g, row = some g → g ≠ gp ∧ g ≠ gr ∧ some g ≠ vo.ownBlock := fun g e => by
    obtain ⟨_, q, cs, hc, hq⟩ := hr g e
    exact hP.apart hc hq
  exact ⟨hP.rd.grown hg (fun e => (hne gr e.symm).2.1 rfl), blk_grown hP.c hg (fun e => (hne gp e.symm).1 rfl), Kd.R_grown2 hP.r rfl hg (fun k hk => (hne k hk).2.2), hP.h, hP.K.grown hg hP.K.size (fun k hk => (hr k hk).1), hP.l⟩
theorem grown_set (W : World) (g i : Nat) (u : Value) : W.grownBy (W.setCell ⟨g, i, none⟩ u) (some g) :=
  ⟨rfl, rfl, rfl, by simp, fun k _ hn => Below.heap_setCell W ⟨g, i, none⟩ u k (fun e => hn (by rw [e]))⟩
theorem Pv.grownO {W0 : World} {v v' : Value} {row : Option Nat} (h : Pv W0 W gp gr v v') (hg : W.grownBy W' row) (hr : ∀ g, row = some g → W0.heap.size ≤ g) : Pv W0 W' gp gr v v' :=
  ⟨Nat.le_trans h.s hg.size, fun j hj h1 h2 h3 => (hg.block j (Nat.lt_of_lt_of_le hj h.s) (fun e => by have := hr j e.symm; omega)).trans (h.k j hj h1 h2 h3), h.a⟩
/-- The orders' row grows by one, and the parser keeps it. -/
theorem Ps.push (hP : Ps w0 W gp gr b a deep vo os) {W3 : World} {v3 : Value} {x : Bool} (ho : Kd.bool.R 4 W3 w0.heap.size (fun _ => True) v3 (os ++ [x])) (hg : W.grownBy W3 vo.ownBlock) (hat : v3.ownBlock = vo.ownBlock ∨ ∃ k, v3.ownBlock = some k ∧ W.heap.size ≤ k) :
    Ps w0 (W3.setCell ⟨gp, 2, none⟩ v3) gp gr b a deep v3 (os ++ [x]) ∧ Pv W (W3.setCell ⟨gp, 2, none⟩ v3) gp gr vo v3 := by
  have hgp : some gp ≠ vo.ownBlock := fun e => by
    obtain ⟨cs, hcs⟩ := Kd.R_typed hP.r gp e.symm
    have := hP.c
    rw [hcs] at this
    injection this with this
    injection this with _ this
    exact absurd this (by decide)
  have hgr : some gr ≠ vo.ownBlock := fun e => by
    obtain ⟨cs, hcs⟩ := Kd.R_typed hP.r gr e.symm
    obtain ⟨A, c, hb, -⟩ := hP.rd
    rw [hcs] at hb
    injection hb with hb
    injection hb with _ hb
    exact absurd hb (by decide)
  have hK3 : Below w0.heap.size w0 W3 := hP.K.grown hg hP.K.size (fun k hk => Kd.R_base hP.r k hk)
  have hc3 := blk_grown hP.c hg hgp
  have hr3 := hP.rd.grown hg hgr
  refine ⟨⟨hr3.grown (grown_set W3 gp 2 v3) (fun e => hP.ne (by injection e with e; exact e.symm)), by simpa using blk_set hc3 2 v3, Kd.R_set ho hc3 (by decide) 2 v3, hP.h, hK3.setCell (p := ⟨gp, 2, none⟩) hP.h _, hP.l⟩, ?_⟩
  exact ⟨by simpa using hg.size, fun j hj h1 h2 h3 => (Below.heap_setCell W3 ⟨gp, 2, none⟩ v3 j h1).trans (hg.block j hj h3), fun k hk => by
    rcases hat with e | ⟨k', e, hk'⟩
    · exact .inl (by rw [← e]; exact hk)
    · rw [hk] at e; injection e with e; subst e; exact .inr hk'⟩
end
/-- A walk of geom: the parser, the result's cell, the tree that is made. -/
structure GX (w0 W W' : World) (gp gr : Nat) (b : List Int) (a : Nat) (deep : Int) (vo v : Value) (os : List Bool) (gs go_ : Nat) (c : Array Value) : Prop where
  P : Ps w0 W' gp gr b a deep v os
  M : Pv W W' gp gr vo v
  S : W'.heap[gs]? = some (.cells #[.int .i64 0, .slice none 0 0, .slice none 0 0, .slice none 0 0] 28 (0, 0))
  O : W'.heap[go_]? = some (.cells c 28 (0, 0))
  h : w0.heap.size ≤ W.heap.size ∧ W.heap.size ≤ gs ∧ gs < go_
section
variable {w0 W W' W2 : World} {gp gr : Nat} {b : List Int} {a a' : Nat} {deep : Int} {vo v v2 : Value} {os os' : List Bool} {gs go_ : Nat} {c : Array Value}
theorem GX.step (h : GX w0 W W' gp gr b a deep vo v os gs go_ c) (hp : Ps w0 W2 gp gr b a' deep v2 os') (hv : Pv W' W2 gp gr v v2) : GX w0 W W2 gp gr b a' deep vo v2 os' gs go_ c :=
  ⟨hp, h.M.trans hv, h.P.keepB hv h.S (by decide), h.P.keepB hv h.O (by decide), h.h⟩
theorem GX.below (h : GX w0 W W' gp gr b a deep vo v os gs go_ c) (hb : Below W'.heap.size W' W2) : GX w0 W W2 gp gr b a deep vo v os gs go_ c := h.step (h.P.below hb) (Pv.below gp gr v hb)
theorem GX.grownO {row : Option Nat} (h : GX w0 W W' gp gr b a deep vo v os gs go_ c) (hg : W'.grownBy W2 row) (hr : ∀ g, row = some g → go_ < g ∧ ∃ q cs, W'.heap[g]? = some (.cells cs q (0, 0)) ∧ q ≠ 133 ∧ q ≠ 171 ∧ q ≠ 4) : GX w0 W W2 gp gr b a deep vo v os gs go_ c := by
  have hh := h.h
  exact ⟨h.P.grownO hg (fun g e => ⟨by have := (hr g e).1; omega, (hr g e).2⟩), h.M.grownO hg (fun g e => by have := (hr g e).1; omega), blk_grown h.S hg (fun e => by have := (hr gs e.symm).1; omega), blk_grown h.O hg (fun e => by have := (hr go_ e.symm).1; omega), h.h⟩
theorem GX.set (h : GX w0 W W' gp gr b a deep vo v os gs go_ c) (i : Nat) (u : Value) : GX w0 W (W'.setCell ⟨go_, i, none⟩ u) gp gr b a deep vo v os gs go_ (c.setIfInBounds i u) := by
  have hh := h.h
  have hg := grown_set W' go_ i u
  exact ⟨h.P.grownO hg (fun g e => by injection e with e; subst e; exact ⟨by omega, _, _, h.O, by decide⟩), h.M.grownO hg (fun g e => by injection e; omega), blk_far h.S (p := ⟨go_, i, none⟩) (by show gs ≠ go_; omega) _, blk_set h.O i u, h.h⟩
/-- The result is stored: the four cells of the answer. -/
theorem GX.done (h : GX w0 W W' gp gr b a deep vo v os gs go_ c) (u0 u1 u2 u3 : Value) :
    Ps w0 ((((W'.setCell ⟨gs, 0, none⟩ u0).setCell ⟨gs, 1, none⟩ u1).setCell ⟨gs, 2, none⟩ u2).setCell ⟨gs, 3, none⟩ u3) gp gr b a deep v os ∧ Pv W ((((W'.setCell ⟨gs, 0, none⟩ u0).setCell ⟨gs, 1, none⟩ u1).setCell ⟨gs, 2, none⟩ u2).setCell ⟨gs, 3, none⟩ u3) gp gr vo v := by
  have hh := h.h
  have one : ∀ (w2 : World) (cs : Array Value) (i : Nat) (u : Value), w2.heap[gs]? = some (.cells cs 28 (0, 0)) → Ps w0 w2 gp gr b a deep v os ∧ Pv W w2 gp gr vo v → (Ps w0 (w2.setCell ⟨gs, i, none⟩ u) gp gr b a deep v os ∧ Pv W (w2.setCell ⟨gs, i, none⟩ u) gp gr vo v) ∧ (w2.setCell ⟨gs, i, none⟩ u).heap[gs]? = some (.cells (cs.setIfInBounds i u) 28 (0, 0)) := by
    intro w2 cs i u hc hp
    have hg := grown_set w2 gs i u
    exact ⟨⟨hp.1.grownO hg (fun g e => by injection e with e; subst e; exact ⟨by omega, _, _, hc, by decide⟩), hp.2.grownO hg (fun g e => by injection e; omega)⟩, blk_set hc i u⟩
  obtain ⟨p1, c1⟩ := one _ _ 0 u0 h.S ⟨h.P, h.M⟩
  obtain ⟨p2, c2⟩ := one _ _ 1 u1 c1 p1
  obtain ⟨p3, c3⟩ := one _ _ 2 u2 c2 p2
  exact (one _ _ 3 u3 c3 p3).1
/-- What is stored is a copy. -/
theorem GX.copy {n : Nat} {k : Int} {v1 v2 v3 u0 u1 u2 u3 : Value} {l1 : List Pt} {l2 : List (List Pt)} {l3 : List Ge} {ok1 ok2 ok3 : Nat → Prop} (h : GX w0 W W' gp gr b a deep vo v os gs go_ c)
    (a1 : ∀ k, ok1 k → go_ < k) (a2 : ∀ k, ok2 k → go_ < k) (a3 : ∀ k, ok3 k → go_ < k) (d12 : ∀ k, ok1 k → ¬ ok2 k) (d13 : ∀ k, ok1 k → ¬ ok3 k) (d23 : ∀ k, ok2 k → ¬ ok3 k)
    (h1 : kPt.R 82 W' W.heap.size ok1 v1 l1) (h2 : Kd.S (Kd.slice 82 kPt) 24 W' W.heap.size ok2 v2 l2) (h3 : Kd.S (kSp n) 28 W' W.heap.size ok3 v3 l3) :
    CopyOf (n + 1) W ((((W'.setCell ⟨gs, 0, none⟩ u0).setCell ⟨gs, 1, none⟩ u1).setCell ⟨gs, 2, none⟩ u2).setCell ⟨gs, 3, none⟩ u3) (.agg #[.int .i64 k, v1, v2, v3]) ⟨k, l1, l2, l3⟩ := by
  have hh := h.h
  refine ⟨[.int .i64 k, v1, v2, v3], rfl, ?_⟩
  rw [kSp_M]
  exact ⟨v1, v2, v3, ok1, ok2, ok3, rfl, fun k h => by have := a1 k h; omega, fun k h => by have := a2 k h; omega, fun k h => by have := a3 k h; omega, d12, d13, d23,
    Kd.R_far (p := ⟨gs, 3, none⟩) (Kd.R_far (p := ⟨gs, 2, none⟩) (Kd.R_far (p := ⟨gs, 1, none⟩) (Kd.R_far (p := ⟨gs, 0, none⟩) h1 (fun k h => by have := a1 k h; show k ≠ gs; omega) _) (fun k h => by have := a1 k h; show k ≠ gs; omega) _) (fun k h => by have := a1 k h; show k ≠ gs; omega) _) (fun k h => by have := a1 k h; show k ≠ gs; omega) _,
    Kd.S_far (p := ⟨gs, 3, none⟩) (Kd.S_far (p := ⟨gs, 2, none⟩) (Kd.S_far (p := ⟨gs, 1, none⟩) (Kd.S_far (p := ⟨gs, 0, none⟩) h2 (fun k h => by have := a2 k h; show k ≠ gs; omega) _) (fun k h => by have := a2 k h; show k ≠ gs; omega) _) (fun k h => by have := a2 k h; show k ≠ gs; omega) _) (fun k h => by have := a2 k h; show k ≠ gs; omega) _,
    Kd.S_far (p := ⟨gs, 3, none⟩) (Kd.S_far (p := ⟨gs, 2, none⟩) (Kd.S_far (p := ⟨gs, 1, none⟩) (Kd.S_far (p := ⟨gs, 0, none⟩) h3 (fun k h => by have := a3 k h; show k ≠ gs; omega) _) (fun k h => by have := a3 k h; show k ≠ gs; omega) _) (fun k h => by have := a3 k h; show k ≠ gs; omega) _) (fun k h => by have := a3 k h; show k ≠ gs; omega) _⟩
end
set_option maxRecDepth 100000 in
set_option maxHeartbeats 32000000 in
theorem geom_calls (n : Nat) : ∀ (w0 W : World) (gp gr : Nat) (b : List Int) (a : Nat) (deep : Int) (vo : Value) (os : List Bool) (level home : Int), Ps w0 W gp gr b a deep vo os → 1 ≤ n → deep + 1 < level + n → 1 ≤ level → level ≤ 257 → deep ≤ 256 → 0 ≤ home ∧ home ≤ 7 → os.length ≤ a →
    Calls Tryd.prog 59 #[.pointer (some ⟨gp, 0, none⟩), .int .i64 level, .int .i64 home] W fun e W' => ∃ vo', Pv W W' gp gr vo vo' ∧ Below w0.heap.size w0 W' ∧ Res (geomR b deep n a level home) e (fun r => ∃ u, e = .returned u ∧ CopyOf n W W' u r.1 ∧ Ps w0 W' gp gr b r.2.1 deep vo' (os ++ r.2.2) ∧ (os ++ r.2.2).length ≤ r.2.1 ∧ a ≤ r.2.1) := by
  induction n with
  | zero => intro w0 W gp gr b a deep vo os level home _ h; omega
  | succ n ih =>
  intro w0 W gp gr b a deep vo os level home hP hn1 hn hl1 hl2 hd hh ho
  have hl := hP.l
  have HW0 := Aside0.mk (show w0.heap.size ≤ W.heap.size from hP.K.size)
  have HP := Aside0.mk hP
  have IH := Aside0.mk ih
  have HO := Aside0.mk ho
  have HN := Aside0.mk hn
  clear hP ih ho hn
  have hu := Tryd.underlying28
  have hmx : Tryd.prog.follows .mixedOrders = true := by kernel_rfl
  obtain ⟨R, hR⟩ : ∃ R, R = geomR b deep (n + 1) a level home := ⟨_, rfl⟩
  have HG := Aside0.mk hR
  rw [← hR]
  clear hR
  unfold geomR at HG
  obtain ⟨oB, hoB⟩ : ∃ y, y = numB b a 1 false % 256 := ⟨_, rfl⟩
  rw [← hoB] at HG
  obtain ⟨le, hle⟩ : ∃ y, y = decide (oB = 1) := ⟨_, rfl⟩
  rw [← hle] at HG
  obtain ⟨k, hk⟩ : ∃ y, y = numB b (a + 1) 4 le % 4294967296 := ⟨_, rfl⟩
  rw [← hk] at HG
  have hk0 : 0 ≤ k ∧ k < 4294967296 := by omega
  have ho0 : 0 ≤ oB ∧ oB < 256 := by omega
  have HLE := Aside0.mk (show (oB == 1) = le by rw [hle]; rfl)
  have HOB := Aside0.mk hoB
  have HK := Aside0.mk hk
  clear hoB hle hk
  go_enter Tryd.func59, Tryd.ntmps59
  go_upto_region 1 with fail
  obtain ⟨gs, hgs⟩ : ∃ y, y = W.heap.size := ⟨_, rfl⟩
  obtain ⟨W0, hW0⟩ : ∃ y, y = W.alloc (.cells #[.int .i64 0, .slice none 0 0, .slice none 0 0, .slice none 0 0] 28) := ⟨_, rfl⟩
  rw [← hW0, ← hgs]
  have hb0 : Below W.heap.size W W0 := by rw [hW0]; exact below_alloc (Below.refl _ _) _
  have hp_ := HP.out.below hb0
  have H0 := Aside0.mk (And.intro hp_ (And.intro (Pv.below gp gr vo hb0) (show W0.heap[gs]? = some (.cells #[.int .i64 0, .slice none 0 0, .slice none 0 0, .slice none 0 0] 28 (0, 0)) by rw [hW0, hgs]; exact World.alloc_heap_new _ _)))
  have HGS := Aside0.mk (show W.heap.size ≤ gs by omega)
  have z0_ : W0.cell? ⟨gp, 0, none⟩ = some (.pointer (some ⟨gr, 0, none⟩)) := (blk_cell hp_.c 0).trans rfl
  clear hW0 hgs hb0 hp_ HP
  go_wp2_with fail
  refine (at_ok H0.out.1).mono ?_
  rintro e W1 ⟨rfl, hp_, hv_⟩
  have H1 := Aside0.mk (And.intro hp_ (And.intro (H0.out.2.1.trans hv_) (H0.out.1.keepB hv_ H0.out.2.2 (by decide))))
  have z0_ : W1.cell? ⟨gp, 0, none⟩ = some (.pointer (some ⟨gr, 0, none⟩)) := (blk_cell hp_.c 0).trans rfl
  clear hp_ hv_ H0
  go_wp2_with fail
  by_cases e1 : b.length < a + 1
  · rw [if_pos e1] at HG
    refine (need_calls w0 _ gp gr b a deep vo os 1 H1.out.1).mono ?_
    rintro e W2 ⟨he_, hp_, hv_⟩
    rw [if_pos e1] at he_
    subst he_
    have H2 := Aside0.mk (And.intro hp_ (And.intro (H1.out.2.1.trans hv_) (H1.out.1.keepB hv_ H1.out.2.2 (by decide))))
    clear hp_ hv_ H1
    go_wp2_with fail
    exact ⟨rfl, vo, H2.out.2.1, H2.out.1.K, by rw [HG.out]; exact Res.bad rfl⟩
  rw [if_neg e1] at HG
  refine (need_calls w0 _ gp gr b a deep vo os 1 H1.out.1).mono ?_
  rintro e W2 ⟨he_, hp_, hv_⟩
  rw [if_neg e1] at he_
  subst he_
  have H2 := Aside0.mk (And.intro hp_ (And.intro (H1.out.2.1.trans hv_) (H1.out.1.keepB hv_ H1.out.2.2 (by decide))))
  have z0_ : W2.cell? ⟨gp, 0, none⟩ = some (.pointer (some ⟨gr, 0, none⟩)) := (blk_cell hp_.c 0).trans rfl
  clear hp_ hv_ H1
  go_wp2_with fail
  refine (byte_ok H2.out.1 (by omega)).mono ?_
  rintro e W3 ⟨rfl, hp_, hv_⟩
  have H3 := Aside0.mk (And.intro hp_ (And.intro (H2.out.2.1.trans hv_) (H2.out.1.keepB hv_ H2.out.2.2 (by decide))))
  have z0_ : W3.cell? ⟨gp, 0, none⟩ = some (.pointer (some ⟨gr, 0, none⟩)) := (blk_cell hp_.c 0).trans rfl
  clear hp_ hv_ H2
  rw [← HOB.out]
  by_cases e2 : 1 < oB
  · rw [if_pos e2] at HG
    go_wp2_with fail
    exact ⟨rfl, vo, H3.out.2.1, H3.out.1.K, by rw [HG.out]; exact Res.bad rfl⟩
  rw [if_neg e2] at HG
  have hle := HLE.out
  go_wp2_with fail
  clear hle
  by_cases e3 : b.length < a + 1 + 4
  · rw [if_pos e3] at HG
    refine (need_calls w0 _ gp gr b (a + 1) deep vo os 4 H3.out.1).mono ?_
    rintro e W4 ⟨he_, hp_, hv_⟩
    rw [if_pos e3] at he_
    subst he_
    have H4 := Aside0.mk (And.intro hp_ (And.intro (H3.out.2.1.trans hv_) (H3.out.1.keepB hv_ H3.out.2.2 (by decide))))
    clear hp_ hv_ H3
    go_wp2_with fail
    exact ⟨rfl, vo, H4.out.2.1, H4.out.1.K, by rw [HG.out]; exact Res.bad rfl⟩
  rw [if_neg e3] at HG
  refine (need_calls w0 _ gp gr b (a + 1) deep vo os 4 H3.out.1).mono ?_
  rintro e W4 ⟨he_, hp_, hv_⟩
  rw [if_neg e3] at he_
  subst he_
  have H4 := Aside0.mk (And.intro hp_ (And.intro (H3.out.2.1.trans hv_) (H3.out.1.keepB hv_ H3.out.2.2 (by decide))))
  have z0_ : W4.cell? ⟨gp, 0, none⟩ = some (.pointer (some ⟨gr, 0, none⟩)) := (blk_cell hp_.c 0).trans rfl
  clear hp_ hv_ H3
  go_wp2_with fail
  refine (word32_ok le H4.out.1 (by omega)).mono ?_
  rintro e W5 ⟨rfl, hp_, hv_⟩
  have H5 := Aside0.mk (And.intro hp_ (And.intro (H4.out.2.1.trans hv_) (H4.out.1.keepB hv_ H4.out.2.2 (by decide))))
  have z0_ : W5.cell? ⟨gp, 0, none⟩ = some (.pointer (some ⟨gr, 0, none⟩)) := (blk_cell hp_.c 0).trans rfl
  have z1_ : W5.cell? ⟨gp, 1, none⟩ = some (.int .i64 deep) := (blk_cell hp_.c 1).trans rfl
  have z2_ : W5.cell? ⟨gp, 2, none⟩ = some vo := (blk_cell hp_.c 2).trans rfl
  have y2_ := blk_frozen hp_.c 2
  clear hp_ hv_ H4
  rw [← HK.out]
  by_cases e4 : k < 1 ∨ 7 < k
  · rw [if_pos e4] at HG
    by_cases e5 : k < 1
    · go_wp2_with fail
      exact ⟨rfl, vo, H5.out.2.1, H5.out.1.K, by rw [HG.out]; exact Res.bad rfl⟩
    · have e6 : 7 < k := by omega
      go_wp2_with fail
      exact ⟨rfl, vo, H5.out.2.1, H5.out.1.K, by rw [HG.out]; exact Res.bad rfl⟩
  rw [if_neg e4] at HG
  have e5 : ¬ (k < 1) := by omega
  have e6 : ¬ (7 < k) := by omega
  have hk7 : k ≤ 7 := by omega
  have hkw : wrap64 k = k := by unfold wrap64; omega
  clear e4
  go_wp2_with fail
  refine (member_calls home k W5 hh).mono ?_
  rintro e w9_ ⟨he_, hw9_⟩
  obtain rfl := hw9_.symm
  obtain ⟨mb, hmb⟩ : ∃ y, y = decide (home = 0 ∨ home = 7 ∨ k = home - 3) := ⟨_, rfl⟩
  rw [← hmb] at he_ HG
  subst he_
  clear hmb
  cases mb with
  | false =>
    rw [if_pos rfl] at HG
    go_wp2_with fail
    exact ⟨rfl, vo, H5.out.2.1, H5.out.1.K, by rw [HG.out]; exact Res.bad rfl⟩
  | true =>
  rw [if_neg (by decide)] at HG
  by_cases e7 : deep < level
  · rw [if_pos e7] at HG
    go_wp2_with fail
    exact ⟨rfl, vo, H5.out.2.1, H5.out.1.K, by rw [HG.out]; exact Res.bad rfl⟩
  rw [if_neg e7] at HG
  have hol : os.length ≤ b.length := by have := HO.out; omega
  have HR5 := Aside0.mk (And.intro H5.out.1.r H5.out.1.K)
  have hos : (os.length + 1) * 1 ≤ 140737488355328 := by omega
  go_upto_region 16 with ((with_reducible refine gate_builtin (b := .append) (xs := #[.tmp 75, .tmp 77]) rfl ?_); at_builtin; refine Kd.R_append Kd.bool (w0 := w0) w0.heap.size rfl (.tmp 75) (.tmp 77) 37 4 (.bool false) 1 rfl Tryd.underlying37 infoBo rfl (by decide) (by decide) vo os le [.bool le] (fun _ => True) (fun _ => False) rfl rfl ?aP ?aK ?aF ?aO ?aB ?aS ?aL ?_; (case aP => rfl); (case aK => exact fun _ h => h.elim); (case aF => exact fun _ _ => trivial); (case aO => exact HR5.out.1); (case aB => exact HR5.out.2); (case aS => exact HR5.out.2.size); (case aL => exact hos); intro v3 w3 ho3 hb3 hg3 hat3; have HA3 := Aside0.mk (And.intro ho3 (And.intro hg3 hat3)); obtain ⟨A5, c5, e5_⟩ := Kd.R_slice ho3; subst e5_; have z2_ : w3.cell? ⟨gp, 2, none⟩ = some vo := (blk_cell (blk_grown H5.out.1.c hg3 (fun e => (H5.out.1.apart_own e).elim)) 2).trans rfl; have y2_ := blk_frozen (blk_grown H5.out.1.c hg3 (fun e => (H5.out.1.apart_own e).elim)) 2; clear ho3 hb3 hg3 hat3)
  rw [show (os ++ [le]).length = os.length + 1 from by simp] at HA3
  obtain ⟨v6, hv6⟩ : ∃ v, v = Value.slice A5 (os.length + 1) c5 := ⟨_, rfl⟩
  rw [← hv6] at HA3 ⊢
  clear hv6 e7 e5 e6 hos hol HR5
  obtain ⟨W6, hW6⟩ : ∃ y, y = w3.setCell ⟨gp, 2, none⟩ v6 := ⟨_, rfl⟩
  rw [← hW6]
  have hpu := H5.out.1.push HA3.out.1 HA3.out.2.1 HA3.out.2.2
  rw [← hW6] at hpu
  have H6 := Aside0.mk (And.intro hpu.1 (And.intro (H5.out.2.1.trans hpu.2) (H5.out.1.keepB hpu.2 H5.out.2.2 (by decide))))
  clear hpu hW6 z0_ z1_ z2_ y2_ H5 HA3
  go_upto_region 17 with fail
  obtain ⟨go_, hgo⟩ : ∃ y, y = W6.heap.size := ⟨_, rfl⟩
  obtain ⟨W7, hW7⟩ : ∃ y, y = W6.alloc (.cells #[.int .i64 k, .slice none 0 0, .slice none 0 0, .slice none 0 0] 28) := ⟨_, rfl⟩
  rw [← hW7, ← hgo]
  have RX := Aside0.mk (show GX w0 W W7 gp gr b (a + 1 + 4) deep vo v6 (os ++ [le]) gs go_ #[.int .i64 k, .slice none 0 0, .slice none 0 0, .slice none 0 0] by
    have hb7 : Below W6.heap.size W6 W7 := by rw [hW7]; exact below_alloc (Below.refl _ _) _
    have hlt := blk_lt H6.out.2.2
    exact ⟨H6.out.1.below hb7, H6.out.2.1.trans (Pv.below gp gr v6 hb7), blk_below H6.out.2.2 hb7, by rw [hW7, hgo]; exact World.alloc_heap_new _ _, HW0.out, HGS.out, by omega⟩)
  clear hW7 hgo H6
  have z0_ : W7.cell? ⟨gp, 0, none⟩ = some (.pointer (some ⟨gr, 0, none⟩)) := (blk_cell RX.out.P.c 0).trans rfl
  have n0 : W7.cell? ⟨go_, 0, none⟩ = some (.int .i64 k) := (blk_cell RX.out.O 0).trans rfl
  by_cases k1 : k = 1
  · rw [if_pos k1] at HG
    have k1a : (k == 1) = true := beq_iff_eq.mpr k1
    clear k1 hkw
    go_wp2_with fail
    refine (pplace_calls w0 W7 gp gr b (a + 1 + 4) deep v6 (os ++ [le]) le RX.out.P).mono ?_
    rintro e W8 ⟨a8, ha8, hp8, hv8, hres⟩
    clear z0_ n0
    rcases hr : placeR b (a + 1 + 4) le with x | l
    · rw [hr] at hres HG
      have he : e = .panicked (early x.1 x.2) := hres
      subst he
      go_wp2_with fail
      exact ⟨rfl, _, (RX.out.step hp8 hv8).M, hp8.K, by rw [HG.out]; exact Res.bad rfl⟩
    · rw [hr] at hres HG
      obtain ⟨u, he, hRu, ha⟩ := hres
      subst he ha
      clear ha8 hr
      obtain ⟨A8, c8, e8⟩ := Kd.R_slice hRu
      subst e8
      have rx := RX.out.step hp8 hv8
      have hs1 : W8.cell? ⟨go_, 1, none⟩ = some (.slice none 0 0) := (blk_cell rx.O 1).trans rfl
      have hf1 := blk_frozen rx.O 1
      have RX8 := Aside0.mk (And.intro rx hRu)
      have HSZ := Aside0.mk (show go_ < W7.heap.size from blk_lt RX.out.O)
      clear rx hRu hp8 hv8 RX
      go_upto_region 34 with fail
      obtain ⟨v8, hv8⟩ : ∃ v, v = Value.slice A8 l.length c8 := ⟨_, rfl⟩
      rw [← hv8] at RX8 ⊢
      obtain ⟨W9, hW9⟩ : ∃ y, y = W8.setCell ⟨go_, 1, none⟩ v8 := ⟨_, rfl⟩
      rw [← hW9]
      have RX9 := Aside0.mk (show GX w0 W W9 gp gr b _ deep vo v6 (os ++ [le]) gs go_ #[.int .i64 k, v8, .slice none 0 0, .slice none 0 0] by rw [hW9]; simpa using RX8.out.1.set 1 v8)
      have HL := Aside0.mk (show kPt.R 82 W9 W.heap.size (fun k => go_ < k) v8 l by
        have hz := HSZ.out
        have hq := RX8.out.1.h
        rw [hW9]
        exact Kd.R_far (p := ⟨go_, 1, none⟩) (Kd.R_lower (Kd.R_mono (Kd.R_bound RX8.out.2) (fun k h => by have := h.2.1; omega)) (by omega)) (fun k h => by show k ≠ go_; omega) _)
      clear hW9 RX8 hs1 hf1
      subst hv8
      have rz_ := RX9.out
      have r0 : W9.cell? ⟨gs, 0, none⟩ = some (.int .i64 0) := (blk_cell rz_.S 0).trans rfl
      have t0 := blk_frozen rz_.S 0
      have r1 : W9.cell? ⟨gs, 1, none⟩ = some (.slice none 0 0) := (blk_cell rz_.S 1).trans rfl
      have t1 := blk_frozen rz_.S 1
      have r2 : W9.cell? ⟨gs, 2, none⟩ = some (.slice none 0 0) := (blk_cell rz_.S 2).trans rfl
      have t2 := blk_frozen rz_.S 2
      have r3 : W9.cell? ⟨gs, 3, none⟩ = some (.slice none 0 0) := (blk_cell rz_.S 3).trans rfl
      have t3 := blk_frozen rz_.S 3
      have o0 : W9.cell? ⟨go_, 0, none⟩ = some (.int .i64 k) := (blk_cell rz_.O 0).trans rfl
      have o1 : W9.cell? ⟨go_, 1, none⟩ = some (.slice A8 l.length c8) := (blk_cell rz_.O 1).trans rfl
      have o2 : W9.cell? ⟨go_, 2, none⟩ = some (.slice none 0 0) := (blk_cell rz_.O 2).trans rfl
      have o3 : W9.cell? ⟨go_, 3, none⟩ = some (.slice none 0 0) := (blk_cell rz_.O 3).trans rfl
      have RZ := Aside0.mk rz_
      clear rz_
      go_wp2_with fail
      have bk := (blk_set (blk_set (blk_set (blk_set RZ.out.S 0 (.int .i64 k)) 1 (.slice A8 l.length c8)) 2 (.slice none 0 0)) 3 (.slice none 0 0))
      refine bodyPost_ret (results_geom (a := 6) (by rfl) _ _ (by rfl) (by simpa using bk)) rfl ?_
      have dn := RZ.out.done (.int .i64 k) (.slice A8 l.length c8) (.slice none 0 0) (.slice none 0 0)
      refine ⟨_, dn.2, dn.1.K, ?_⟩
      rw [HG.out]
      refine Res.ok_ ⟨_, rfl, RZ.out.copy (ok1 := fun k => go_ < k) (ok2 := fun _ => False) (ok3 := fun _ => False) (fun _ h => h) (fun _ h => h.elim) (fun _ h => h.elim) (fun _ _ h => h) (fun _ _ h => h) (fun _ h => h.elim) HL.out (Kd.S_nil _ _ _ _ _) (Kd.S_nil _ _ _ _ _), dn.1, by have := HO.out; simp; omega, by simp; omega⟩
  have k1a : (k == 1) = false := beq_eq_false_iff_ne.mpr k1
  rw [if_neg k1] at HG
  by_cases k2 : k = 2
  · rw [if_pos k2] at HG
    have k2a : (k == 2) = true := beq_iff_eq.mpr k2
    clear k2 hkw k1
    go_wp2_with fail
    refine (pcount_calls w0 W7 gp gr b (a + 1 + 4) deep v6 (os ++ [le]) le 16 (by omega) RX.out.P).mono ?_
    rintro e W8 ⟨a8, ha8, hp8, hv8, hres⟩
    clear z0_ n0
    rcases hr : countR b (a + 1 + 4) le 16 with x | m
    · rw [hr] at hres HG
      have he : e = .panicked (early x.1 x.2) := hres
      subst he
      go_wp2_with fail
      exact ⟨rfl, _, (RX.out.step hp8 hv8).M, hp8.K, by rw [HG.out]; exact Res.bad rfl⟩
    · rw [hr] at hres HG
      have hm := countR_le hr
      obtain ⟨he, ha⟩ := hres
      subst he ha
      clear ha8 hr
      have RXc := Aside0.mk (RX.out.step hp8 hv8)
      clear hp8 hv8 RX
      go_wp2_with fail
      refine (points_calls_ w0 W8 gp gr b (a + 1 + 4 + 4) deep v6 (os ++ [le]) le m RXc.out.P (by omega)).mono ?_
      rintro e W10 ⟨a10, ha10, hp10, hv10, hres⟩
      rcases hr : pointsR b (a + 1 + 4 + 4) le m with x | l
      · rw [hr] at hres HG
        have he : e = .panicked (early x.1 x.2) := hres.1 x rfl
        subst he
        go_wp2_with fail
        exact ⟨rfl, _, (RXc.out.step hp10 hv10).M, hp10.K, by rw [HG.out]; exact Res.bad rfl⟩
      · rw [hr] at hres HG
        obtain ⟨u, he, hRu, ha⟩ := hres.2 l rfl
        subst he ha
        clear ha10 hr hres
        obtain ⟨A8, c8, e8⟩ := Kd.R_slice hRu
        subst e8
        have rx := RXc.out.step hp10 hv10
        have hs1 : W10.cell? ⟨go_, 1, none⟩ = some (.slice none 0 0) := (blk_cell rx.O 1).trans rfl
        have hf1 := blk_frozen rx.O 1
        have RX8 := Aside0.mk (And.intro rx hRu)
        have HSZ := Aside0.mk (show go_ < W8.heap.size from blk_lt RXc.out.O)
        clear rx hRu hp10 hv10 RXc
        go_upto_region 34 with fail
        obtain ⟨v8, hv8⟩ : ∃ v, v = Value.slice A8 l.length c8 := ⟨_, rfl⟩
        rw [← hv8] at RX8 ⊢
        obtain ⟨W9, hW9⟩ : ∃ y, y = W10.setCell ⟨go_, 1, none⟩ v8 := ⟨_, rfl⟩
        rw [← hW9]
        have RX9 := Aside0.mk (show GX w0 W W9 gp gr b _ deep vo v6 (os ++ [le]) gs go_ #[.int .i64 k, v8, .slice none 0 0, .slice none 0 0] by rw [hW9]; simpa using RX8.out.1.set 1 v8)
        have HL := Aside0.mk (show kPt.R 82 W9 W.heap.size (fun k => go_ < k) v8 l by
          have hz := HSZ.out
          have hq := RX8.out.1.h
          rw [hW9]
          exact Kd.R_far (p := ⟨go_, 1, none⟩) (Kd.R_lower (Kd.R_mono (Kd.R_bound RX8.out.2) (fun k h => by have := h.2.1; omega)) (by omega)) (fun k h => by show k ≠ go_; omega) _)
        clear hW9 RX8 hs1 hf1
        subst hv8
        have rz_ := RX9.out
        have r0 : W9.cell? ⟨gs, 0, none⟩ = some (.int .i64 0) := (blk_cell rz_.S 0).trans rfl
        have t0 := blk_frozen rz_.S 0
        have r1 : W9.cell? ⟨gs, 1, none⟩ = some (.slice none 0 0) := (blk_cell rz_.S 1).trans rfl
        have t1 := blk_frozen rz_.S 1
        have r2 : W9.cell? ⟨gs, 2, none⟩ = some (.slice none 0 0) := (blk_cell rz_.S 2).trans rfl
        have t2 := blk_frozen rz_.S 2
        have r3 : W9.cell? ⟨gs, 3, none⟩ = some (.slice none 0 0) := (blk_cell rz_.S 3).trans rfl
        have t3 := blk_frozen rz_.S 3
        have o0 : W9.cell? ⟨go_, 0, none⟩ = some (.int .i64 k) := (blk_cell rz_.O 0).trans rfl
        have o1 : W9.cell? ⟨go_, 1, none⟩ = some (.slice A8 l.length c8) := (blk_cell rz_.O 1).trans rfl
        have o2 : W9.cell? ⟨go_, 2, none⟩ = some (.slice none 0 0) := (blk_cell rz_.O 2).trans rfl
        have o3 : W9.cell? ⟨go_, 3, none⟩ = some (.slice none 0 0) := (blk_cell rz_.O 3).trans rfl
        have RZ := Aside0.mk rz_
        clear rz_
        go_wp2_with fail
        have bk := (blk_set (blk_set (blk_set (blk_set RZ.out.S 0 (.int .i64 k)) 1 (.slice A8 l.length c8)) 2 (.slice none 0 0)) 3 (.slice none 0 0))
        refine bodyPost_ret (results_geom (a := 6) (by rfl) _ _ (by rfl) (by simpa using bk)) rfl ?_
        have dn := RZ.out.done (.int .i64 k) (.slice A8 l.length c8) (.slice none 0 0) (.slice none 0 0)
        refine ⟨_, dn.2, dn.1.K, ?_⟩
        rw [HG.out]
        refine Res.ok_ ⟨_, rfl, RZ.out.copy (ok1 := fun k => go_ < k) (ok2 := fun _ => False) (ok3 := fun _ => False) (fun _ h => h) (fun _ h => h.elim) (fun _ h => h.elim) (fun _ _ h => h) (fun _ _ h => h) (fun _ h => h.elim) HL.out (Kd.S_nil _ _ _ _ _) (Kd.S_nil _ _ _ _ _), dn.1, by have := HO.out; simp; omega, by simp; omega⟩
  have k2a : (k == 2) = false := beq_eq_false_iff_ne.mpr k2
  rw [if_neg k2] at HG
  by_cases k3 : k = 3
  · rw [if_pos k3] at HG
    have k3a : (k == 3) = true := beq_iff_eq.mpr k3
    clear k3 hkw k1 k2
    go_wp2_with fail
    refine (pcount_calls w0 W7 gp gr b (a + 1 + 4) deep v6 (os ++ [le]) le 20 (by omega) RX.out.P).mono ?_
    rintro e W8 ⟨a8, ha8, hp8, hv8, hres⟩
    clear z0_ n0
    rcases hr : countR b (a + 1 + 4) le 20 with x | m
    · rw [hr] at hres HG
      have he : e = .panicked (early x.1 x.2) := hres
      subst he
      go_wp2_with fail
      exact ⟨rfl, _, (RX.out.step hp8 hv8).M, hp8.K, by rw [HG.out]; exact Res.bad rfl⟩
    · rw [hr] at hres HG
      have hm := countR_le hr
      obtain ⟨he, ha⟩ := hres
      subst he ha
      clear ha8 hr
      have RXc := Aside0.mk (RX.out.step hp8 hv8)
      clear hp8 hv8 RX
      go_wp2_with fail
      go_loopg [127] m (fun kq i wr => ∃ (j aj : Nat) (v2 : Value) (dn : List (List Pt)), j + kq = m ∧ i = .int .i64 (j : Int) ∧ Aside0 (ringsR b le m (a + 1 + 4 + 4) = (ringsR b le kq aj).map (fun r => (dn ++ r.1, r.2))) ∧ Aside0 (GX w0 W wr gp gr b aj deep vo v6 (os ++ [le]) gs go_ #[.int .i64 k, .slice none 0 0, v2, .slice none 0 0]) ∧ Aside0 (Kd.S (Kd.slice 82 kPt) 24 wr W.heap.size (fun k => go_ < k) v2 dn) ∧ Aside0 (dn.length = j ∧ a + 9 ≤ aj))
      case atStart => exact ⟨0, a + 1 + 4 + 4, _, [], by omega, rfl, ⟨by rcases ringsR b le m (a + 1 + 4 + 4) with x | x <;> rfl⟩, RXc, ⟨Kd.S_nil _ _ _ _ _⟩, ⟨rfl, by omega⟩⟩
      case round =>
        clear RXc
        obtain ⟨j, aj, v2, dn, hj, rfl, HRR, RX, HS, HJ⟩ := hrel
        cases gk with
        | zero =>
          have hlt : ¬ ((j : Int) < (m : Int)) := by omega
          have HG2 := Aside0.mk (show R = .ok (⟨k, [], dn, []⟩, aj, [le]) by rw [HG.out, HRR.out]; simp [ringsR, Except.map])
          go_upto_region 34 with fail
          obtain ⟨A8, c8, e8⟩ := Kd.S_slice HS.out
          subst e8
          have rz_ := RX.out
          have r0 : wr.cell? ⟨gs, 0, none⟩ = some (.int .i64 0) := (blk_cell rz_.S 0).trans rfl
          have t0 := blk_frozen rz_.S 0
          have r1 : wr.cell? ⟨gs, 1, none⟩ = some (.slice none 0 0) := (blk_cell rz_.S 1).trans rfl
          have t1 := blk_frozen rz_.S 1
          have r2 : wr.cell? ⟨gs, 2, none⟩ = some (.slice none 0 0) := (blk_cell rz_.S 2).trans rfl
          have t2 := blk_frozen rz_.S 2
          have r3 : wr.cell? ⟨gs, 3, none⟩ = some (.slice none 0 0) := (blk_cell rz_.S 3).trans rfl
          have t3 := blk_frozen rz_.S 3
          have o0 : wr.cell? ⟨go_, 0, none⟩ = some (.int .i64 k) := (blk_cell rz_.O 0).trans rfl
          have o1 : wr.cell? ⟨go_, 1, none⟩ = some (.slice none 0 0) := (blk_cell rz_.O 1).trans rfl
          have o2 : wr.cell? ⟨go_, 2, none⟩ = some (.slice A8 dn.length c8) := (blk_cell rz_.O 2).trans rfl
          have o3 : wr.cell? ⟨go_, 3, none⟩ = some (.slice none 0 0) := (blk_cell rz_.O 3).trans rfl
          have RZ := Aside0.mk rz_
          clear rz_
          go_wp2_with fail
          have bk := (blk_set (blk_set (blk_set (blk_set RZ.out.S 0 (.int .i64 k)) 1 (.slice none 0 0)) 2 (.slice A8 dn.length c8)) 3 (.slice none 0 0))
          refine bodyPost_ret (results_geom (a := 6) (by rfl) _ _ (by rfl) (by simpa using bk)) rfl ?_
          have dn := RZ.out.done (.int .i64 k) (.slice none 0 0) (.slice A8 dn.length c8) (.slice none 0 0)
          refine ⟨_, dn.2, dn.1.K, ?_⟩
          rw [HG2.out]
          refine Res.ok_ ⟨_, rfl, RZ.out.copy (ok1 := fun _ => False) (ok2 := fun k => go_ < k) (ok3 := fun _ => False) (fun _ h => h.elim) (fun _ h => h) (fun _ h => h.elim) (fun _ h => h.elim) (fun _ h => h.elim) (fun _ _ h => h) (Kd.R_nil _ _ _ _ _) HS.out (Kd.S_nil _ _ _ _ _), dn.1, by have := HO.out; have := HJ.out; simp; omega, by have := HJ.out; simp; omega⟩
        | succ kq =>
          have hlt : (j : Int) < (m : Int) := by omega
          go_upto_region 32 with fail
          have q0 := RX.out.below (below_drew (Below.refl _ _))
          have s0 := Kd.S_drew HS.out
          have hgz : go_ < wr.drew.heap.size := blk_lt q0.O
          refine start_ (n := 9) (S := fun w' => w'.cell? ⟨go_, 2, none⟩ = some v2 ∧ True) (ds := [8]) #[false, false, false, false, false, false, false, false, false] hmx rfl rfl ⟨(blk_cell q0.O 2).trans rfl, trivial⟩ (fun hHeld => ?_)
          clear RX HS
          generalize wr.drew = Wb at q0 s0 hgz hHeld ⊢
          (refine pure_ (i := 0) (N := some 129) (v := ?_) (a' := ?_) #[true, false, false, false, false, false, false, false, false] rfl rfl (by kernel_rfl) (fun _ _ _ h => h) (Or.inl ⟨by rfl, ?_⟩) ?_ ?_; rotate_left; (focus (intro w'_; go_simp; with_reducible rfl)); rotate_left; (focus (simp only [Act.put, List.setIfInBounds_toArray, List.set_cons_zero, List.set_cons_succ]; rfl)))
          (refine pure_ (i := 2) (N := some 131) (v := ?_) (a' := ?_) #[true, false, true, false, false, false, false, false, false] rfl rfl (by kernel_rfl) (fun _ _ _ h => h) (Or.inl ⟨by rfl, ?_⟩) ?_ ?_; rotate_left; (focus (intro w'_; go_simp; with_reducible rfl)); rotate_left; (focus (simp only [Act.put, List.setIfInBounds_toArray, List.set_cons_zero, List.set_cons_succ]; rfl)))
          (refine pure_ (i := 3) (N := some 132) (v := ?_) (a' := ?_) #[true, false, true, true, false, false, false, false, false] rfl rfl (by kernel_rfl) (fun _ _ _ h => h) (Or.inl ⟨by rfl, ?_⟩) ?_ ?_; rotate_left; (focus (intro w'_; go_simp; with_reducible rfl)); rotate_left; (focus (simp only [Act.put, List.setIfInBounds_toArray, List.set_cons_zero, List.set_cons_succ]; rfl)))
          (refine take_ (i := 1) (N := some 130) (v := ?_) (a' := ?_) #[true, true, true, true, false, false, false, false, false] rfl rfl (by kernel_rfl) (fun _ _ _ h => h) (Or.inl ⟨by rfl, ?_⟩) hHeld ?_ ?_; rotate_left; (focus (intro w'_ hs_; (repeat obtain ⟨_, hs_⟩ := hs_); go_simp; with_reducible rfl)); rotate_left; (focus (simp only [Act.put, List.setIfInBounds_toArray, List.set_cons_zero, List.set_cons_succ]; rfl)))
          refine one_ (i := 4) (N := some 133) #[true, true, true, true, true, false, false, false, false] rfl rfl (by kernel_rfl) (by decide) (fun K hK => ?_)
          refine goesP_ Tryd.func95 (by kernel_rfl) rfl #[.pointer (some ⟨gp, 0, none⟩), .bool le] (by rfl) rfl rfl (by (try simp only [List.map_toArray, List.map_cons, List.map_nil]); first | done | rfl) ?_
          refine (ring_calls w0 Wb gp gr b aj deep v6 (os ++ [le]) le q0.P).mono ?_
          rintro e w1 ⟨a1, ha1, hp1, hv1, hres⟩
          have nx1 := q0.step hp1 hv1
          have s3' := q0.P.keepS hv1 s0 (by decide)
          have hvlt := Kd.S_lt s0
          have hz1 : Wb.heap.size ≤ w1.heap.size := hv1.s
          rcases hr : ringR b aj le with x | l
          · have he := hres.1 x hr
            subst he
            refine .inr ⟨_, rfl, ?_⟩
            have HG2 := Aside0.mk (show R = .error x by rw [HG.out, HRR.out, ringsR, hr]; rfl)
            exact ⟨rfl, _, nx1.M, nx1.P.K, by rw [HG2.out]; exact Res.bad rfl⟩
          obtain ⟨u, he, hRu, ha, hl0⟩ := hres.2 l hr
          subst he
          obtain ⟨A5, c5, e5⟩ := Kd.R_slice hRu
          subst e5
          have HR2 := Aside0.mk (show ringsR b le m (a + 1 + 4 + 4) = (ringsR b le kq a1).map (fun r => ((dn ++ [l]) ++ r.1, r.2)) by
            rw [HRR.out, ringsR, hr, ha]
            show Except.map _ (Except.map _ _) = _
            rcases ringsR b le kq (aj + 4 + 16 * l.length) with x | x
            · rfl
            · simp [Except.map])
          have HA1 := Aside0.mk (show a + 9 ≤ a1 by have := HJ.out; omega)
          clear hres hr ha hp1 hv1 ha1 hl0 q0 s0
          refine .inl ⟨_, rfl, hK.out _ _ ⟨(blk_cell nx1.O 2).trans rfl, trivial⟩ (fun hHeld2 => ?_)⟩
          clear hK K hHeld
          (refine norm_ (a' := ?_) ?_ ?_; rotate_left; focus (show Act.put _ (some 133) _ = _; simp only [Act.put, List.setIfInBounds_toArray, List.set_cons_zero, List.set_cons_succ]; rfl))
          refine one_ (i := 5) (N := some 134) #[true, true, true, true, true, true, false, false, false] rfl rfl (by kernel_rfl) (by decide) (fun K hK => ?_)
          (refine value_ (w1 := ?_) (v := ?_) (by rfl) rfl ?_ ?_; rotate_left 2; (focus (go_simp; constructor <;> rfl)))
          have nxa := nx1.below (below_alloc (Below.refl _ w1) (.cells #[.slice A5 l.length c5] 24))
          refine hK.out _ _ ⟨(blk_cell nxa.O 2).trans rfl, trivial⟩ (fun hHeld => ?_)
          clear hK K hHeld2 nxa
          (refine norm_ (a' := ?_) ?_ ?_; rotate_left; focus (show Act.put _ (some 134) _ = _; simp only [Act.put, List.setIfInBounds_toArray, List.set_cons_zero, List.set_cons_succ]; rfl))
          refine one_ (i := 6) (N := some 135) #[true, true, true, true, true, true, true, false, false] rfl rfl (by kernel_rfl) (by decide) (fun K hK => ?_)
          have hord := nx1.h
          refine Kd.S_append_step (Kd.slice 82 kPt) (w0 := w1) W.heap.size (by rfl) (.tmp 130) (.tmp 134) 25 24 (.slice none 0 0) 24 rfl Tryd.underlying25 infoPts rfl (by decide) (by omega) v2 dn l [.slice A5 l.length c5] (fun k => go_ < k) (fun k => Wb.heap.size ≤ k) rfl rfl ?aP ?aK ?aF ?aO ?aB ?aS ?aL ?_
          case aP => exact Kd.M_row (Kd.R_lower (Kd.R_mono (Kd.R_bound hRu) (fun k h => h.2.1)) (by omega))
          case aK => exact fun k h => ⟨by omega, fun e => by have := hvlt k e.symm; omega⟩
          case aF => exact fun k h => by have := blk_lt nx1.O; omega
          case aO => exact Kd.S_mono s3' (fun k h => ⟨h.1, by have := h.2; show ¬ _ ≤ k; omega⟩)
          case aB => exact Below.refl _ _
          case aS => have := blk_lt nx1.S; omega
          case aL => have := HJ.out; omega
          intro v3 w2 ho2 hb2 hg2 hat2
          obtain ⟨TT, hTT⟩ : ∃ TT, TT = dn ++ [l] := ⟨_, rfl⟩
          rw [← hTT] at ho2 HR2
          have HTT := Aside0.mk (show TT.length = j + 1 by have := HJ.out; rw [hTT, List.length_append]; simp; omega)
          clear hTT
          obtain ⟨A6, c6, e6⟩ := Kd.S_slice ho2
          subst e6
          have nx2 := nx1.grownO hg2 (fun k e => by
            obtain ⟨h1, h2, h3, q, hq, cells, hc⟩ := (Kd.S_R (Kd.S_bound s3')).1 k e
            exact ⟨h1.1, q, cells, hc, (show ∀ q, q ∈ 24 :: (Kd.slice 82 kPt).E → q ≠ 133 ∧ q ≠ 171 ∧ q ≠ 4 by decide) q hq⟩)
          clear nx1 s3' hvlt hat2 hg2 hb2 hRu
          refine hK.out _ _ ⟨(blk_cell nx2.O 2).trans rfl, trivial⟩ (fun hHeld2 => ?_)
          clear hK K hHeld
          (refine norm_ (a' := ?_) ?_ ?_; rotate_left; focus (show Act.put _ (some 135) _ = _; simp only [Act.put, List.setIfInBounds_toArray, List.set_cons_zero, List.set_cons_succ]; rfl))
          (refine pure_ (i := 7) (N := some 136) (v := ?_) (a' := ?_) #[true, true, true, true, true, true, true, true, false] rfl rfl (by kernel_rfl) (fun _ _ _ h => h) (Or.inl ⟨by rfl, ?_⟩) ?_ ?_; rotate_left; (focus (intro w'_; go_simp; with_reducible rfl)); rotate_left; (focus (simp only [Act.put, List.setIfInBounds_toArray, List.set_cons_zero, List.set_cons_succ]; rfl)))
          refine last_ (i := 8) (N := none) #[true, true, true, true, true, true, true, true, true] rfl rfl (by kernel_rfl) (by decide) (fun K hK => ?_)
          have hs0 : w2.cell? ⟨go_, 2, none⟩ = some v2 := (blk_cell nx2.O 2).trans rfl
          have hf0 := blk_frozen nx2.O 2
          refine skip_ (w1 := ?_) (by rfl) rfl ?_ ?_
          rotate_left
          · go_simp
            rfl
          refine hK.out _ _ ?_
          clear hK K
          refine done_ (by kernel_rfl) ?_
          have nx3 := nx2.set 2 (.slice A6 TT.length c6)
          have s4 := Kd.S_set ho2 nx2.O (by decide) 2 (.slice A6 TT.length c6)
          obtain ⟨v4, hv4⟩ : ∃ v, v = Value.slice A6 TT.length c6 := ⟨_, rfl⟩
          rw [← hv4] at nx3 s4 ⊢
          obtain ⟨W6, hW6⟩ : ∃ y, y = w2.setCell ⟨go_, 2, none⟩ v4 := ⟨_, rfl⟩
          rw [← hW6] at nx3 s4 ⊢
          have RX := Aside0.mk (show GX w0 W W6 gp gr b a1 deep vo v6 (os ++ [le]) gs go_ #[.int .i64 k, .slice none 0 0, v4, .slice none 0 0] from by simpa using nx3)
          have HS := Aside0.mk s4
          clear hv4 hW6 nx2 nx3 s4 ho2 hs0 hf0 hHeld2 hord
          go_wp2_with fail
          go_roundg kq
          case measure => omega
          case rel => exact ⟨j + 1, a1, v4, TT, by omega, by go_num, HR2, RX, HS, ⟨HTT.out, HA1.out⟩⟩
  have k3a : (k == 3) = false := beq_eq_false_iff_ne.mpr k3
  rw [if_neg k3] at HG
  obtain ⟨F, hF⟩ : ∃ F, F = (fun p => geomR b deep n p (level + 1) k) := ⟨_, rfl⟩
  rw [← hF] at HG
  have HF := Aside0.mk hF
  have HLV := Aside0.mk (show 1 ≤ n ∧ deep + 1 < level + 1 + (n : Int) ∧ 1 ≤ level + 1 ∧ level + 1 ≤ 257 by have := HN.out; omega)
  have HKR := Aside0.mk (show 0 ≤ k ∧ k ≤ 7 by omega)
  clear hF
  by_cases k4 : k = 4
  · rw [if_pos k4] at HG
    have k4a : (k == 4) = true := beq_iff_eq.mpr k4
    clear k4 hkw k1 k2 k3
    go_wp2_with fail
    refine (pcount_calls w0 W7 gp gr b (a + 1 + 4) deep v6 (os ++ [le]) le 21 (by omega) RX.out.P).mono ?_
    rintro e W8 ⟨a8, ha8, hp8, hv8, hres⟩
    clear z0_ n0
    rcases hr : countR b (a + 1 + 4) le 21 with x | m
    · rw [hr] at hres HG
      have he : e = .panicked (early x.1 x.2) := hres
      subst he
      go_wp2_with fail
      exact ⟨rfl, _, (RX.out.step hp8 hv8).M, hp8.K, by rw [HG.out]; exact Res.bad rfl⟩
    · rw [hr] at hres HG
      have hm := countR_le hr
      obtain ⟨he, ha⟩ := hres
      subst he ha
      clear ha8 hr
      have RXc := Aside0.mk (RX.out.step hp8 hv8)
      clear hp8 hv8 RX
      go_wp2_with fail
      go_loopg [93] m (fun kq i wr => ∃ (j aj : Nat) (v3 vj : Value) (dn : List Ge) (oj : List Bool), j + kq = m ∧ i = .int .i64 (j : Int) ∧ Aside0 (partsR F m (a + 1 + 4 + 4) = (partsR F kq aj).map (fun r => (dn ++ r.1, r.2.1, oj ++ r.2.2))) ∧ Aside0 (GX w0 W wr gp gr b aj deep vo vj (os ++ le :: oj) gs go_ #[.int .i64 k, .slice none 0 0, .slice none 0 0, v3]) ∧ Aside0 (Kd.S (kSp n) 28 wr W.heap.size (fun k => go_ < k) v3 dn) ∧ Aside0 (dn.length = j ∧ a + 9 ≤ aj ∧ (os ++ le :: oj).length ≤ aj))
      case atStart => exact ⟨0, a + 1 + 4 + 4, _, v6, [], [], by omega, rfl, ⟨by rcases partsR F m (a + 1 + 4 + 4) with x | x <;> rfl⟩, RXc, ⟨Kd.S_nil _ _ _ _ _⟩, ⟨rfl, by omega, by have := HO.out; simp; omega⟩⟩
      case round =>
        clear RXc
        obtain ⟨j, aj, v3, vj, dn, oj, hj, rfl, HRR, RX, HS, HJ⟩ := hrel
        cases gk with
        | zero =>
          have hlt : ¬ ((j : Int) < (m : Int)) := by omega
          have HG2 := Aside0.mk (show R = .ok (⟨k, [], [], dn⟩, aj, le :: oj) by rw [HG.out, HRR.out]; simp [partsR, Except.map])
          go_upto_region 34 with fail
          obtain ⟨A8, c8, e8⟩ := Kd.S_slice HS.out
          subst e8
          have rz_ := RX.out
          have r0 : wr.cell? ⟨gs, 0, none⟩ = some (.int .i64 0) := (blk_cell rz_.S 0).trans rfl
          have t0 := blk_frozen rz_.S 0
          have r1 : wr.cell? ⟨gs, 1, none⟩ = some (.slice none 0 0) := (blk_cell rz_.S 1).trans rfl
          have t1 := blk_frozen rz_.S 1
          have r2 : wr.cell? ⟨gs, 2, none⟩ = some (.slice none 0 0) := (blk_cell rz_.S 2).trans rfl
          have t2 := blk_frozen rz_.S 2
          have r3 : wr.cell? ⟨gs, 3, none⟩ = some (.slice none 0 0) := (blk_cell rz_.S 3).trans rfl
          have t3 := blk_frozen rz_.S 3
          have o0 : wr.cell? ⟨go_, 0, none⟩ = some (.int .i64 k) := (blk_cell rz_.O 0).trans rfl
          have o1 : wr.cell? ⟨go_, 1, none⟩ = some (.slice none 0 0) := (blk_cell rz_.O 1).trans rfl
          have o2 : wr.cell? ⟨go_, 2, none⟩ = some (.slice none 0 0) := (blk_cell rz_.O 2).trans rfl
          have o3 : wr.cell? ⟨go_, 3, none⟩ = some (.slice A8 dn.length c8) := (blk_cell rz_.O 3).trans rfl
          have RZ := Aside0.mk rz_
          clear rz_
          go_wp2_with fail
          have bk := (blk_set (blk_set (blk_set (blk_set RZ.out.S 0 (.int .i64 k)) 1 (.slice none 0 0)) 2 (.slice none 0 0)) 3 (.slice A8 dn.length c8))
          refine bodyPost_ret (results_geom (a := 6) (by rfl) _ _ (by rfl) (by simpa using bk)) rfl ?_
          have dn := RZ.out.done (.int .i64 k) (.slice none 0 0) (.slice none 0 0) (.slice A8 dn.length c8)
          refine ⟨_, dn.2, dn.1.K, ?_⟩
          rw [HG2.out]
          refine Res.ok_ ⟨_, rfl, RZ.out.copy (ok1 := fun _ => False) (ok2 := fun _ => False) (ok3 := fun k => go_ < k) (fun _ h => h.elim) (fun _ h => h.elim) (fun _ h => h) (fun _ h => h.elim) (fun _ h => h.elim) (fun _ h => h.elim) (Kd.R_nil _ _ _ _ _) (Kd.S_nil _ _ _ _ _) HS.out, dn.1, by have h9 := HJ.out.2.2; simpa using h9, by have := HJ.out; show a ≤ aj; omega⟩
        | succ kq =>
          have hlt : (j : Int) < (m : Int) := by omega
          have hlv8 : wrap64 (level + 1) = level + 1 := by unfold wrap64; omega
          have hlv9 : IntKind.i64.wrap (level + 1) = level + 1 := by unfold IntKind.wrap; simp [IntKind.bits, IntKind.signed]; omega
          go_upto_region 23 with fail
          have q0 := RX.out.below (below_drew (Below.refl _ _))
          have s0 := Kd.S_drew HS.out
          have hgz : go_ < wr.drew.heap.size := blk_lt q0.O
          refine start_ (n := 12) (S := fun w' => w'.cell? ⟨go_, 3, none⟩ = some v3 ∧ w'.cell? ⟨go_, 0, none⟩ = some (.int .i64 k) ∧ True) (ds := [11]) #[false, false, false, false, false, false, false, false, false, false, false, false] hmx rfl rfl ⟨(blk_cell q0.O 3).trans rfl, (blk_cell q0.O 0).trans rfl, trivial⟩ (fun hHeld => ?_)
          clear RX HS
          generalize wr.drew = Wb at q0 s0 hgz hHeld ⊢
          (refine pure_ (i := 0) (N := some 95) (v := ?_) (a' := ?_) #[true, false, false, false, false, false, false, false, false, false, false, false] rfl rfl (by kernel_rfl) (fun _ _ _ h => h) (Or.inl ⟨by rfl, ?_⟩) ?_ ?_; rotate_left; (focus (intro w'_; go_simp; with_reducible rfl)); rotate_left; (focus (simp only [Act.put, List.setIfInBounds_toArray, List.set_cons_zero, List.set_cons_succ]; rfl)))
          (refine pure_ (i := 2) (N := some 97) (v := ?_) (a' := ?_) #[true, false, true, false, false, false, false, false, false, false, false, false] rfl rfl (by kernel_rfl) (fun _ _ _ h => h) (Or.inl ⟨by rfl, ?_⟩) ?_ ?_; rotate_left; (focus (intro w'_; go_simp; with_reducible rfl)); rotate_left; (focus (simp only [Act.put, List.setIfInBounds_toArray, List.set_cons_zero, List.set_cons_succ]; rfl)))
          (refine pure_ (i := 3) (N := some 98) (v := ?_) (a' := ?_) #[true, false, true, true, false, false, false, false, false, false, false, false] rfl rfl (by kernel_rfl) (fun _ _ _ h => h) (Or.inl ⟨by rfl, ?_⟩) ?_ ?_; rotate_left; (focus (intro w'_; go_simp; with_reducible rfl)); rotate_left; (focus (simp only [Act.put, List.setIfInBounds_toArray, List.set_cons_zero, List.set_cons_succ]; rfl)))
          (refine pure_ (i := 4) (N := some 99) (v := ?_) (a' := ?_) #[true, false, true, true, true, false, false, false, false, false, false, false] rfl rfl (by kernel_rfl) (fun _ _ _ h => h) (Or.inl ⟨by rfl, ?_⟩) ?_ ?_; rotate_left; (focus (intro w'_; go_simp; with_reducible rfl)); rotate_left; (focus (simp only [Act.put, List.setIfInBounds_toArray, List.set_cons_zero, List.set_cons_succ]; rfl)))
          (refine pure_ (i := 5) (N := some 100) (v := ?_) (a' := ?_) #[true, false, true, true, true, true, false, false, false, false, false, false] rfl rfl (by kernel_rfl) (fun _ _ _ h => h) (Or.inl ⟨by rfl, ?_⟩) ?_ ?_; rotate_left; (focus (intro w'_; go_simp; with_reducible rfl)); rotate_left; (focus (simp only [Act.put, List.setIfInBounds_toArray, List.set_cons_zero, List.set_cons_succ]; rfl)))
          (refine take_ (i := 1) (N := some 96) (v := ?_) (a' := ?_) #[true, true, true, true, true, true, false, false, false, false, false, false] rfl rfl (by kernel_rfl) (fun _ _ _ h => h) (Or.inl ⟨by rfl, ?_⟩) hHeld ?_ ?_; rotate_left; (focus (intro w'_ hs_; (repeat obtain ⟨_, hs_⟩ := hs_); go_simp; with_reducible rfl)); rotate_left; (focus (simp only [Act.put, List.setIfInBounds_toArray, List.set_cons_zero, List.set_cons_succ]; rfl)))
          (refine take_ (i := 6) (N := some 101) (v := ?_) (a' := ?_) #[true, true, true, true, true, true, true, false, false, false, false, false] rfl rfl (by kernel_rfl) (fun _ _ _ h => h) (Or.inl ⟨by rfl, ?_⟩) hHeld ?_ ?_; rotate_left; (focus (intro w'_ hs_; (repeat obtain ⟨_, hs_⟩ := hs_); go_simp; with_reducible rfl)); rotate_left; (focus (simp only [Act.put, List.setIfInBounds_toArray, List.set_cons_zero, List.set_cons_succ]; rfl)))
          refine one_ (i := 7) (N := some 102) #[true, true, true, true, true, true, true, true, false, false, false, false] rfl rfl (by kernel_rfl) (by decide) (fun K hK => ?_)
          refine goesP_ Tryd.func59 (by kernel_rfl) rfl #[.pointer (some ⟨gp, 0, none⟩), .int .i64 (level + 1), .int .i64 k] (by rfl) rfl rfl (by simp [Act.eval]) ?_
          refine (IH.out w0 Wb gp gr b aj deep vj (os ++ le :: oj) (level + 1) k q0.P HLV.out.1 HLV.out.2.1 HLV.out.2.2.1 HLV.out.2.2.2 hd HKR.out HJ.out.2.2).mono ?_
          rintro e w1 ⟨v1, hv1, hB1, hres⟩
          have s3' := q0.P.keepS hv1 s0 (fun q hq => (show ∀ q, q ∈ 28 :: [82, 24, 28] → q ≠ 133 ∧ q ≠ 171 ∧ q ≠ 4 by decide) q (by rcases List.mem_cons.1 hq with h | h; exact List.mem_cons.2 (.inl h); exact List.mem_cons.2 (.inr ((kSpP n).2.E q h))))
          have hvlt := Kd.S_lt s0
          have hz1 : Wb.heap.size ≤ w1.heap.size := hv1.s
          rcases hr : geomR b deep n aj (level + 1) k with x | ⟨gq, aq, oq⟩
          · have he := hres.1 x hr
            subst he
            refine .inr ⟨_, rfl, ?_⟩
            have HG2 := Aside0.mk (show R = .error x by rw [HG.out, HRR.out, partsR, HF.out]; simp only [hr]; rfl)
            exact ⟨rfl, _, q0.M.trans hv1, hB1, by rw [HG2.out]; exact Res.bad rfl⟩
          obtain ⟨u, he, hcp, hp1, hol1, hal1⟩ := hres.2 _ hr
          subst he
          have nx1 := q0.step hp1 hv1
          obtain ⟨cs, rfl, hM⟩ := hcp
          obtain ⟨E1, e1, E2, e2, E3, e3, rfl, _⟩ := kGe_open (kSp_K n ((kSp n).K_of_M hM))
          have HR2 := Aside0.mk (show partsR F m (a + 1 + 4 + 4) = (partsR F kq aq).map (fun r => ((dn ++ [gq]) ++ r.1, r.2.1, (oj ++ oq) ++ r.2.2)) by
            rw [HRR.out, partsR]
            have hf : F aj = .ok (gq, aq, oq) := by rw [HF.out]; exact hr
            rw [hf]
            show Except.map _ (Except.map _ _) = _
            rcases partsR F kq aq with x | x
            · rfl
            · simp [Except.map])
          have HA1 := Aside0.mk (show a + 9 ≤ aq ∧ (os ++ le :: (oj ++ oq)).length ≤ aq by
            have := HJ.out
            have h1 : aj ≤ aq := hal1
            have h2 : ((os ++ le :: oj) ++ oq).length ≤ aq := hol1
            exact ⟨by omega, by simpa using h2⟩)
          have hos9 : (os ++ le :: oj) ++ oq = os ++ le :: (oj ++ oq) := by simp
          have nx1' : GX w0 W w1 gp gr b aq deep vo v1 (os ++ le :: (oj ++ oq)) gs go_ #[.int .i64 k, .slice none 0 0, .slice none 0 0, v3] := by rw [← hos9]; exact nx1
          clear hres hr hp1 hv1 hol1 hal1 q0 s0 nx1 hos9 hB1
          refine .inl ⟨_, rfl, hK.out _ _ ⟨(blk_cell nx1'.O 3).trans rfl, (blk_cell nx1'.O 0).trans rfl, trivial⟩ (fun hHeld2 => ?_)⟩
          clear hK K hHeld
          (refine norm_ (a' := ?_) ?_ ?_; rotate_left; focus (show Act.put _ (some 102) _ = _; simp only [Act.put, List.setIfInBounds_toArray, List.set_cons_zero, List.set_cons_succ]; rfl))
          refine one_ (i := 8) (N := some 103) #[true, true, true, true, true, true, true, true, true, false, false, false] rfl rfl (by kernel_rfl) (by decide) (fun K hK => ?_)
          (refine value_ (w1 := ?_) (v := ?_) (by rfl) rfl ?_ ?_; rotate_left 2; (focus (go_simp; constructor <;> rfl)))
          have nxa := nx1'.below (below_alloc (Below.refl _ w1) (.cells #[.int .i64 gq.f0, .slice E1 gq.f1.length e1, .slice E2 gq.f2.length e2, .slice E3 gq.f3.length e3] 28))
          refine hK.out _ _ ⟨(blk_cell nxa.O 3).trans rfl, (blk_cell nxa.O 0).trans rfl, trivial⟩ (fun hHeld => ?_)
          clear hK K hHeld2 nxa
          (refine norm_ (a' := ?_) ?_ ?_; rotate_left; focus (show Act.put _ (some 103) _ = _; simp only [Act.put, List.setIfInBounds_toArray, List.set_cons_zero, List.set_cons_succ]; rfl))
          refine one_ (i := 9) (N := some 104) #[true, true, true, true, true, true, true, true, true, true, false, false] rfl rfl (by kernel_rfl) (by decide) (fun K hK => ?_)
          have hord := nx1'.h
          refine Kd.S_append_step (kSp n) (w0 := w1) W.heap.size (by rfl) (.tmp 96) (.tmp 103) 26 28 (.agg #[.int .i64 0, .slice none 0 0, .slice none 0 0, .slice none 0 0]) 80 rfl Tryd.underlying26 (by rw [kSp_sz]; exact infoGe) (by rw [kSp_sz]; rfl) (by rw [kSp_sz]; decide) (by omega) v3 dn gq [.int .i64 gq.f0, .slice E1 gq.f1.length e1, .slice E2 gq.f2.length e2, .slice E3 gq.f3.length e3] (fun k => go_ < k) (fun k => Wb.heap.size ≤ k) rfl rfl ?aP ?aK ?aF ?aO ?aB ?aS ?aL ?_
          case aP => exact (kSp n).M_lower (by omega) ((kSp n).M_mono (fun k h => h) hM)
          case aK => exact fun k h => ⟨by omega, fun e => by have := hvlt k e.symm; omega⟩
          case aF => exact fun k h => by have := blk_lt nx1'.O; omega
          case aO => exact Kd.S_mono s3' (fun k h => ⟨h.1, by have := h.2; show ¬ _ ≤ k; omega⟩)
          case aB => exact Below.refl _ _
          case aS => have := blk_lt nx1'.S; omega
          case aL => have := HJ.out; omega
          intro v4 w2 ho2 hb2 hg2 hat2
          obtain ⟨TT, hTT⟩ : ∃ TT, TT = dn ++ [gq] := ⟨_, rfl⟩
          rw [← hTT] at ho2 HR2
          have HTT := Aside0.mk (show TT.length = j + 1 by have := HJ.out; rw [hTT, List.length_append]; simp; omega)
          clear hTT
          obtain ⟨A6, c6, e6⟩ := Kd.S_slice ho2
          subst e6
          have nx2 := nx1'.grownO hg2 (fun k e => by
            obtain ⟨h1, h2, h3, q, hq, cells, hc⟩ := (Kd.S_R (Kd.S_bound s3')).1 k e
            exact ⟨h1.1, q, cells, hc, (show ∀ q, q ∈ 28 :: [82, 24, 28] → q ≠ 133 ∧ q ≠ 171 ∧ q ≠ 4 by decide) q (by rcases List.mem_cons.1 hq with h | h; exact List.mem_cons.2 (.inl h); exact List.mem_cons.2 (.inr ((kSpP n).2.E q h)))⟩)
          clear nx1' s3' hvlt hat2 hg2 hb2 hM
          refine hK.out _ _ ⟨(blk_cell nx2.O 3).trans rfl, (blk_cell nx2.O 0).trans rfl, trivial⟩ (fun hHeld2 => ?_)
          clear hK K hHeld
          (refine norm_ (a' := ?_) ?_ ?_; rotate_left; focus (show Act.put _ (some 104) _ = _; simp only [Act.put, List.setIfInBounds_toArray, List.set_cons_zero, List.set_cons_succ]; rfl))
          (refine pure_ (i := 10) (N := some 105) (v := ?_) (a' := ?_) #[true, true, true, true, true, true, true, true, true, true, true, false] rfl rfl (by kernel_rfl) (fun _ _ _ h => h) (Or.inl ⟨by rfl, ?_⟩) ?_ ?_; rotate_left; (focus (intro w'_; go_simp; with_reducible rfl)); rotate_left; (focus (simp only [Act.put, List.setIfInBounds_toArray, List.set_cons_zero, List.set_cons_succ]; rfl)))
          refine last_ (i := 11) (N := none) #[true, true, true, true, true, true, true, true, true, true, true, true] rfl rfl (by kernel_rfl) (by decide) (fun K hK => ?_)
          have hs0 : w2.cell? ⟨go_, 3, none⟩ = some v3 := (blk_cell nx2.O 3).trans rfl
          have hf0 := blk_frozen nx2.O 3
          refine skip_ (w1 := ?_) (by rfl) rfl ?_ ?_
          rotate_left
          · go_simp
            rfl
          refine hK.out _ _ ?_
          clear hK K
          refine done_ (by kernel_rfl) ?_
          have nx3 := nx2.set 3 (.slice A6 TT.length c6)
          have hgf := nx2.h
          have s4 := Kd.S_far (p := ⟨go_, 3, none⟩) ho2 (fun k h => by show k ≠ go_; omega) (.slice A6 TT.length c6)
          obtain ⟨v5, hv5⟩ : ∃ v, v = Value.slice A6 TT.length c6 := ⟨_, rfl⟩
          rw [← hv5] at nx3 s4 ⊢
          obtain ⟨W6, hW6⟩ : ∃ y, y = w2.setCell ⟨go_, 3, none⟩ v5 := ⟨_, rfl⟩
          rw [← hW6] at nx3 s4 ⊢
          have RX := Aside0.mk (show GX w0 W W6 gp gr b aq deep vo v1 (os ++ le :: (oj ++ oq)) gs go_ #[.int .i64 k, .slice none 0 0, .slice none 0 0, v5] from by simpa using nx3)
          have HS := Aside0.mk s4
          clear hv5 hW6 nx2 nx3 s4 ho2 hs0 hf0 hHeld2 hord hgf
          go_wp2_with fail
          go_roundg kq
          case measure => omega
          case rel => exact ⟨j + 1, aq, v5, v1, TT, oj ++ oq, by omega, by go_num, HR2, RX, HS, ⟨HTT.out, HA1.out.1, HA1.out.2⟩⟩
  · rw [if_neg k4] at HG
    have k4a : (k == 4) = false := beq_eq_false_iff_ne.mpr k4
    clear k4 hkw k1 k2 k3
    go_wp2_with fail
    refine (pcount_calls w0 W7 gp gr b (a + 1 + 4) deep v6 (os ++ [le]) le 9 (by omega) RX.out.P).mono ?_
    rintro e W8 ⟨a8, ha8, hp8, hv8, hres⟩
    clear z0_ n0
    rcases hr : countR b (a + 1 + 4) le 9 with x | m
    · rw [hr] at hres HG
      have he : e = .panicked (early x.1 x.2) := hres
      subst he
      go_wp2_with fail
      exact ⟨rfl, _, (RX.out.step hp8 hv8).M, hp8.K, by rw [HG.out]; exact Res.bad rfl⟩
    · rw [hr] at hres HG
      have hm := countR_le hr
      obtain ⟨he, ha⟩ := hres
      subst he ha
      clear ha8 hr
      have RXc := Aside0.mk (RX.out.step hp8 hv8)
      clear hp8 hv8 RX
      go_wp2_with fail
      go_loopg [93] m (fun kq i wr => ∃ (j aj : Nat) (v3 vj : Value) (dn : List Ge) (oj : List Bool), j + kq = m ∧ i = .int .i64 (j : Int) ∧ Aside0 (partsR F m (a + 1 + 4 + 4) = (partsR F kq aj).map (fun r => (dn ++ r.1, r.2.1, oj ++ r.2.2))) ∧ Aside0 (GX w0 W wr gp gr b aj deep vo vj (os ++ le :: oj) gs go_ #[.int .i64 k, .slice none 0 0, .slice none 0 0, v3]) ∧ Aside0 (Kd.S (kSp n) 28 wr W.heap.size (fun k => go_ < k) v3 dn) ∧ Aside0 (dn.length = j ∧ a + 9 ≤ aj ∧ (os ++ le :: oj).length ≤ aj))
      case atStart => exact ⟨0, a + 1 + 4 + 4, _, v6, [], [], by omega, rfl, ⟨by rcases partsR F m (a + 1 + 4 + 4) with x | x <;> rfl⟩, RXc, ⟨Kd.S_nil _ _ _ _ _⟩, ⟨rfl, by omega, by have := HO.out; simp; omega⟩⟩
      case round =>
        clear RXc
        obtain ⟨j, aj, v3, vj, dn, oj, hj, rfl, HRR, RX, HS, HJ⟩ := hrel
        cases gk with
        | zero =>
          have hlt : ¬ ((j : Int) < (m : Int)) := by omega
          have HG2 := Aside0.mk (show R = .ok (⟨k, [], [], dn⟩, aj, le :: oj) by rw [HG.out, HRR.out]; simp [partsR, Except.map])
          go_upto_region 34 with fail
          obtain ⟨A8, c8, e8⟩ := Kd.S_slice HS.out
          subst e8
          have rz_ := RX.out
          have r0 : wr.cell? ⟨gs, 0, none⟩ = some (.int .i64 0) := (blk_cell rz_.S 0).trans rfl
          have t0 := blk_frozen rz_.S 0
          have r1 : wr.cell? ⟨gs, 1, none⟩ = some (.slice none 0 0) := (blk_cell rz_.S 1).trans rfl
          have t1 := blk_frozen rz_.S 1
          have r2 : wr.cell? ⟨gs, 2, none⟩ = some (.slice none 0 0) := (blk_cell rz_.S 2).trans rfl
          have t2 := blk_frozen rz_.S 2
          have r3 : wr.cell? ⟨gs, 3, none⟩ = some (.slice none 0 0) := (blk_cell rz_.S 3).trans rfl
          have t3 := blk_frozen rz_.S 3
          have o0 : wr.cell? ⟨go_, 0, none⟩ = some (.int .i64 k) := (blk_cell rz_.O 0).trans rfl
          have o1 : wr.cell? ⟨go_, 1, none⟩ = some (.slice none 0 0) := (blk_cell rz_.O 1).trans rfl
          have o2 : wr.cell? ⟨go_, 2, none⟩ = some (.slice none 0 0) := (blk_cell rz_.O 2).trans rfl
          have o3 : wr.cell? ⟨go_, 3, none⟩ = some (.slice A8 dn.length c8) := (blk_cell rz_.O 3).trans rfl
          have RZ := Aside0.mk rz_
          clear rz_
          go_wp2_with fail
          have bk := (blk_set (blk_set (blk_set (blk_set RZ.out.S 0 (.int .i64 k)) 1 (.slice none 0 0)) 2 (.slice none 0 0)) 3 (.slice A8 dn.length c8))
          refine bodyPost_ret (results_geom (a := 6) (by rfl) _ _ (by rfl) (by simpa using bk)) rfl ?_
          have dn := RZ.out.done (.int .i64 k) (.slice none 0 0) (.slice none 0 0) (.slice A8 dn.length c8)
          refine ⟨_, dn.2, dn.1.K, ?_⟩
          rw [HG2.out]
          refine Res.ok_ ⟨_, rfl, RZ.out.copy (ok1 := fun _ => False) (ok2 := fun _ => False) (ok3 := fun k => go_ < k) (fun _ h => h.elim) (fun _ h => h.elim) (fun _ h => h) (fun _ h => h.elim) (fun _ h => h.elim) (fun _ h => h.elim) (Kd.R_nil _ _ _ _ _) (Kd.S_nil _ _ _ _ _) HS.out, dn.1, by have h9 := HJ.out.2.2; simpa using h9, by have := HJ.out; show a ≤ aj; omega⟩
        | succ kq =>
          have hlt : (j : Int) < (m : Int) := by omega
          have hlv8 : wrap64 (level + 1) = level + 1 := by unfold wrap64; omega
          have hlv9 : IntKind.i64.wrap (level + 1) = level + 1 := by unfold IntKind.wrap; simp [IntKind.bits, IntKind.signed]; omega
          go_upto_region 23 with fail
          have q0 := RX.out.below (below_drew (Below.refl _ _))
          have s0 := Kd.S_drew HS.out
          have hgz : go_ < wr.drew.heap.size := blk_lt q0.O
          refine start_ (n := 12) (S := fun w' => w'.cell? ⟨go_, 3, none⟩ = some v3 ∧ w'.cell? ⟨go_, 0, none⟩ = some (.int .i64 k) ∧ True) (ds := [11]) #[false, false, false, false, false, false, false, false, false, false, false, false] hmx rfl rfl ⟨(blk_cell q0.O 3).trans rfl, (blk_cell q0.O 0).trans rfl, trivial⟩ (fun hHeld => ?_)
          clear RX HS
          generalize wr.drew = Wb at q0 s0 hgz hHeld ⊢
          (refine pure_ (i := 0) (N := some 95) (v := ?_) (a' := ?_) #[true, false, false, false, false, false, false, false, false, false, false, false] rfl rfl (by kernel_rfl) (fun _ _ _ h => h) (Or.inl ⟨by rfl, ?_⟩) ?_ ?_; rotate_left; (focus (intro w'_; go_simp; with_reducible rfl)); rotate_left; (focus (simp only [Act.put, List.setIfInBounds_toArray, List.set_cons_zero, List.set_cons_succ]; rfl)))
          (refine pure_ (i := 2) (N := some 97) (v := ?_) (a' := ?_) #[true, false, true, false, false, false, false, false, false, false, false, false] rfl rfl (by kernel_rfl) (fun _ _ _ h => h) (Or.inl ⟨by rfl, ?_⟩) ?_ ?_; rotate_left; (focus (intro w'_; go_simp; with_reducible rfl)); rotate_left; (focus (simp only [Act.put, List.setIfInBounds_toArray, List.set_cons_zero, List.set_cons_succ]; rfl)))
          (refine pure_ (i := 3) (N := some 98) (v := ?_) (a' := ?_) #[true, false, true, true, false, false, false, false, false, false, false, false] rfl rfl (by kernel_rfl) (fun _ _ _ h => h) (Or.inl ⟨by rfl, ?_⟩) ?_ ?_; rotate_left; (focus (intro w'_; go_simp; with_reducible rfl)); rotate_left; (focus (simp only [Act.put, List.setIfInBounds_toArray, List.set_cons_zero, List.set_cons_succ]; rfl)))
          (refine pure_ (i := 4) (N := some 99) (v := ?_) (a' := ?_) #[true, false, true, true, true, false, false, false, false, false, false, false] rfl rfl (by kernel_rfl) (fun _ _ _ h => h) (Or.inl ⟨by rfl, ?_⟩) ?_ ?_; rotate_left; (focus (intro w'_; go_simp; with_reducible rfl)); rotate_left; (focus (simp only [Act.put, List.setIfInBounds_toArray, List.set_cons_zero, List.set_cons_succ]; rfl)))
          (refine pure_ (i := 5) (N := some 100) (v := ?_) (a' := ?_) #[true, false, true, true, true, true, false, false, false, false, false, false] rfl rfl (by kernel_rfl) (fun _ _ _ h => h) (Or.inl ⟨by rfl, ?_⟩) ?_ ?_; rotate_left; (focus (intro w'_; go_simp; with_reducible rfl)); rotate_left; (focus (simp only [Act.put, List.setIfInBounds_toArray, List.set_cons_zero, List.set_cons_succ]; rfl)))
          (refine take_ (i := 1) (N := some 96) (v := ?_) (a' := ?_) #[true, true, true, true, true, true, false, false, false, false, false, false] rfl rfl (by kernel_rfl) (fun _ _ _ h => h) (Or.inl ⟨by rfl, ?_⟩) hHeld ?_ ?_; rotate_left; (focus (intro w'_ hs_; (repeat obtain ⟨_, hs_⟩ := hs_); go_simp; with_reducible rfl)); rotate_left; (focus (simp only [Act.put, List.setIfInBounds_toArray, List.set_cons_zero, List.set_cons_succ]; rfl)))
          (refine take_ (i := 6) (N := some 101) (v := ?_) (a' := ?_) #[true, true, true, true, true, true, true, false, false, false, false, false] rfl rfl (by kernel_rfl) (fun _ _ _ h => h) (Or.inl ⟨by rfl, ?_⟩) hHeld ?_ ?_; rotate_left; (focus (intro w'_ hs_; (repeat obtain ⟨_, hs_⟩ := hs_); go_simp; with_reducible rfl)); rotate_left; (focus (simp only [Act.put, List.setIfInBounds_toArray, List.set_cons_zero, List.set_cons_succ]; rfl)))
          refine one_ (i := 7) (N := some 102) #[true, true, true, true, true, true, true, true, false, false, false, false] rfl rfl (by kernel_rfl) (by decide) (fun K hK => ?_)
          refine goesP_ Tryd.func59 (by kernel_rfl) rfl #[.pointer (some ⟨gp, 0, none⟩), .int .i64 (level + 1), .int .i64 k] (by rfl) rfl rfl (by simp [Act.eval]) ?_
          refine (IH.out w0 Wb gp gr b aj deep vj (os ++ le :: oj) (level + 1) k q0.P HLV.out.1 HLV.out.2.1 HLV.out.2.2.1 HLV.out.2.2.2 hd HKR.out HJ.out.2.2).mono ?_
          rintro e w1 ⟨v1, hv1, hB1, hres⟩
          have s3' := q0.P.keepS hv1 s0 (fun q hq => (show ∀ q, q ∈ 28 :: [82, 24, 28] → q ≠ 133 ∧ q ≠ 171 ∧ q ≠ 4 by decide) q (by rcases List.mem_cons.1 hq with h | h; exact List.mem_cons.2 (.inl h); exact List.mem_cons.2 (.inr ((kSpP n).2.E q h))))
          have hvlt := Kd.S_lt s0
          have hz1 : Wb.heap.size ≤ w1.heap.size := hv1.s
          rcases hr : geomR b deep n aj (level + 1) k with x | ⟨gq, aq, oq⟩
          · have he := hres.1 x hr
            subst he
            refine .inr ⟨_, rfl, ?_⟩
            have HG2 := Aside0.mk (show R = .error x by rw [HG.out, HRR.out, partsR, HF.out]; simp only [hr]; rfl)
            exact ⟨rfl, _, q0.M.trans hv1, hB1, by rw [HG2.out]; exact Res.bad rfl⟩
          obtain ⟨u, he, hcp, hp1, hol1, hal1⟩ := hres.2 _ hr
          subst he
          have nx1 := q0.step hp1 hv1
          obtain ⟨cs, rfl, hM⟩ := hcp
          obtain ⟨E1, e1, E2, e2, E3, e3, rfl, _⟩ := kGe_open (kSp_K n ((kSp n).K_of_M hM))
          have HR2 := Aside0.mk (show partsR F m (a + 1 + 4 + 4) = (partsR F kq aq).map (fun r => ((dn ++ [gq]) ++ r.1, r.2.1, (oj ++ oq) ++ r.2.2)) by
            rw [HRR.out, partsR]
            have hf : F aj = .ok (gq, aq, oq) := by rw [HF.out]; exact hr
            rw [hf]
            show Except.map _ (Except.map _ _) = _
            rcases partsR F kq aq with x | x
            · rfl
            · simp [Except.map])
          have HA1 := Aside0.mk (show a + 9 ≤ aq ∧ (os ++ le :: (oj ++ oq)).length ≤ aq by
            have := HJ.out
            have h1 : aj ≤ aq := hal1
            have h2 : ((os ++ le :: oj) ++ oq).length ≤ aq := hol1
            exact ⟨by omega, by simpa using h2⟩)
          have hos9 : (os ++ le :: oj) ++ oq = os ++ le :: (oj ++ oq) := by simp
          have nx1' : GX w0 W w1 gp gr b aq deep vo v1 (os ++ le :: (oj ++ oq)) gs go_ #[.int .i64 k, .slice none 0 0, .slice none 0 0, v3] := by rw [← hos9]; exact nx1
          clear hres hr hp1 hv1 hol1 hal1 q0 s0 nx1 hos9 hB1
          refine .inl ⟨_, rfl, hK.out _ _ ⟨(blk_cell nx1'.O 3).trans rfl, (blk_cell nx1'.O 0).trans rfl, trivial⟩ (fun hHeld2 => ?_)⟩
          clear hK K hHeld
          (refine norm_ (a' := ?_) ?_ ?_; rotate_left; focus (show Act.put _ (some 102) _ = _; simp only [Act.put, List.setIfInBounds_toArray, List.set_cons_zero, List.set_cons_succ]; rfl))
          refine one_ (i := 8) (N := some 103) #[true, true, true, true, true, true, true, true, true, false, false, false] rfl rfl (by kernel_rfl) (by decide) (fun K hK => ?_)
          (refine value_ (w1 := ?_) (v := ?_) (by rfl) rfl ?_ ?_; rotate_left 2; (focus (go_simp; constructor <;> rfl)))
          have nxa := nx1'.below (below_alloc (Below.refl _ w1) (.cells #[.int .i64 gq.f0, .slice E1 gq.f1.length e1, .slice E2 gq.f2.length e2, .slice E3 gq.f3.length e3] 28))
          refine hK.out _ _ ⟨(blk_cell nxa.O 3).trans rfl, (blk_cell nxa.O 0).trans rfl, trivial⟩ (fun hHeld => ?_)
          clear hK K hHeld2 nxa
          (refine norm_ (a' := ?_) ?_ ?_; rotate_left; focus (show Act.put _ (some 103) _ = _; simp only [Act.put, List.setIfInBounds_toArray, List.set_cons_zero, List.set_cons_succ]; rfl))
          refine one_ (i := 9) (N := some 104) #[true, true, true, true, true, true, true, true, true, true, false, false] rfl rfl (by kernel_rfl) (by decide) (fun K hK => ?_)
          have hord := nx1'.h
          refine Kd.S_append_step (kSp n) (w0 := w1) W.heap.size (by rfl) (.tmp 96) (.tmp 103) 26 28 (.agg #[.int .i64 0, .slice none 0 0, .slice none 0 0, .slice none 0 0]) 80 rfl Tryd.underlying26 (by rw [kSp_sz]; exact infoGe) (by rw [kSp_sz]; rfl) (by rw [kSp_sz]; decide) (by omega) v3 dn gq [.int .i64 gq.f0, .slice E1 gq.f1.length e1, .slice E2 gq.f2.length e2, .slice E3 gq.f3.length e3] (fun k => go_ < k) (fun k => Wb.heap.size ≤ k) rfl rfl ?aP ?aK ?aF ?aO ?aB ?aS ?aL ?_
          case aP => exact (kSp n).M_lower (by omega) ((kSp n).M_mono (fun k h => h) hM)
          case aK => exact fun k h => ⟨by omega, fun e => by have := hvlt k e.symm; omega⟩
          case aF => exact fun k h => by have := blk_lt nx1'.O; omega
          case aO => exact Kd.S_mono s3' (fun k h => ⟨h.1, by have := h.2; show ¬ _ ≤ k; omega⟩)
          case aB => exact Below.refl _ _
          case aS => have := blk_lt nx1'.S; omega
          case aL => have := HJ.out; omega
          intro v4 w2 ho2 hb2 hg2 hat2
          obtain ⟨TT, hTT⟩ : ∃ TT, TT = dn ++ [gq] := ⟨_, rfl⟩
          rw [← hTT] at ho2 HR2
          have HTT := Aside0.mk (show TT.length = j + 1 by have := HJ.out; rw [hTT, List.length_append]; simp; omega)
          clear hTT
          obtain ⟨A6, c6, e6⟩ := Kd.S_slice ho2
          subst e6
          have nx2 := nx1'.grownO hg2 (fun k e => by
            obtain ⟨h1, h2, h3, q, hq, cells, hc⟩ := (Kd.S_R (Kd.S_bound s3')).1 k e
            exact ⟨h1.1, q, cells, hc, (show ∀ q, q ∈ 28 :: [82, 24, 28] → q ≠ 133 ∧ q ≠ 171 ∧ q ≠ 4 by decide) q (by rcases List.mem_cons.1 hq with h | h; exact List.mem_cons.2 (.inl h); exact List.mem_cons.2 (.inr ((kSpP n).2.E q h)))⟩)
          clear nx1' s3' hvlt hat2 hg2 hb2 hM
          refine hK.out _ _ ⟨(blk_cell nx2.O 3).trans rfl, (blk_cell nx2.O 0).trans rfl, trivial⟩ (fun hHeld2 => ?_)
          clear hK K hHeld
          (refine norm_ (a' := ?_) ?_ ?_; rotate_left; focus (show Act.put _ (some 104) _ = _; simp only [Act.put, List.setIfInBounds_toArray, List.set_cons_zero, List.set_cons_succ]; rfl))
          (refine pure_ (i := 10) (N := some 105) (v := ?_) (a' := ?_) #[true, true, true, true, true, true, true, true, true, true, true, false] rfl rfl (by kernel_rfl) (fun _ _ _ h => h) (Or.inl ⟨by rfl, ?_⟩) ?_ ?_; rotate_left; (focus (intro w'_; go_simp; with_reducible rfl)); rotate_left; (focus (simp only [Act.put, List.setIfInBounds_toArray, List.set_cons_zero, List.set_cons_succ]; rfl)))
          refine last_ (i := 11) (N := none) #[true, true, true, true, true, true, true, true, true, true, true, true] rfl rfl (by kernel_rfl) (by decide) (fun K hK => ?_)
          have hs0 : w2.cell? ⟨go_, 3, none⟩ = some v3 := (blk_cell nx2.O 3).trans rfl
          have hf0 := blk_frozen nx2.O 3
          refine skip_ (w1 := ?_) (by rfl) rfl ?_ ?_
          rotate_left
          · go_simp
            rfl
          refine hK.out _ _ ?_
          clear hK K
          refine done_ (by kernel_rfl) ?_
          have nx3 := nx2.set 3 (.slice A6 TT.length c6)
          have hgf := nx2.h
          have s4 := Kd.S_far (p := ⟨go_, 3, none⟩) ho2 (fun k h => by show k ≠ go_; omega) (.slice A6 TT.length c6)
          obtain ⟨v5, hv5⟩ : ∃ v, v = Value.slice A6 TT.length c6 := ⟨_, rfl⟩
          rw [← hv5] at nx3 s4 ⊢
          obtain ⟨W6, hW6⟩ : ∃ y, y = w2.setCell ⟨go_, 3, none⟩ v5 := ⟨_, rfl⟩
          rw [← hW6] at nx3 s4 ⊢
          have RX := Aside0.mk (show GX w0 W W6 gp gr b aq deep vo v1 (os ++ le :: (oj ++ oq)) gs go_ #[.int .i64 k, .slice none 0 0, .slice none 0 0, v5] from by simpa using nx3)
          have HS := Aside0.mk s4
          clear hv5 hW6 nx2 nx3 s4 ho2 hs0 hf0 hHeld2 hord hgf
          go_wp2_with fail
          go_roundg kq
          case measure => omega
          case rel => exact ⟨j + 1, aq, v5, v1, TT, oj ++ oq, by omega, by go_num, HR2, RX, HS, ⟨HTT.out, HA1.out.1, HA1.out.2⟩⟩
end Go.Proofs.YtiiolhnpnlmkjaaDoor.Tree
