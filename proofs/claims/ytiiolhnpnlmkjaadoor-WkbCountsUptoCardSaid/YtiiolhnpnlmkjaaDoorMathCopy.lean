/- The builtin copy into a row of the call's own, in the words of the print: what the row holds behind it. -/
import Derived.Test.YtiiolhnpnlmkjaaDoorWMore
import Derived.Laws.CopyOwn
namespace Go.Proofs.YtiiolhnpnlmkjaaDoor.Math
open Go.RowKit Go.Proofs.YtiiolhnpnlmkjaaDoorW.PrintWords Go.Proofs.YtiiolhnpnlmkjaaDoorW.PrintMore
section
variable {P : Program} {ops : Array Oper} {rest : List Oper} {o : Oper} {a : Act} {Q : Exit → Act → World → Prop} {α : Type}
theorem R_shape {d : Kd α} {e : Nat} {w : World} {base : Nat} {ok : Nat → Prop} {v : Value} {xs : List α} {p : Nat → Prop} (h : d.R e w base ok v xs) (hat : ∃ b, v.ownBlock = some b ∧ p b) : ∃ g cap, v = .slice (some ⟨g, 0, none⟩) xs.length cap := by
  obtain ⟨_, inner, ⟨_, hr⟩, _⟩ := h
  rcases hr with ⟨rfl, _⟩ | ⟨g, cap, cur, rfl, _⟩
  · obtain ⟨b, hb, _⟩ := hat
    simp [Value.ownBlock] at hb
  · exact ⟨g, cap, rfl⟩
theorem grown_setRow (W : World) (g : Nat) (cs : Array Value) : W.grownBy (W.setRow g cs) (some g) :=
  ⟨rfl, rfl, rfl, by simp [World.setRow], fun k _ hk => setRow_other W g k cs (fun e => hk (by rw [e]))⟩
theorem R_copy {enc : α → Value} {h1 : ∀ x, (enc x).oneCell' = true} {w0 W : World} {e base g n cap : Nat} {ok : Nat → Prop} (d : α) (hgd : o.guard = none) (s x : Operand) (t : TypeId)
    (ho : o.op = .call { callee := .builtin .copy, args := #[s, x], argTypes := #[t, t] }) (ht : P.underlying t = some (.slice e)) (hsz : (P.info? e).map (·.size) = some 1)
    (xs ys : List α) (A : Option Addr) (m c : Nat) (hs : a.eval s = .slice (some ⟨g, 0, none⟩) n cap) (hx : a.eval x = .slice A m c)
    (HO : (Kd.scalar enc h1).R e W base ok (.slice (some ⟨g, 0, none⟩) n cap) xs) (HR : (Kd.scalar enc h1).C W A m ys) (HB : Below base w0 W)
    (h : ∀ w1, (Kd.scalar enc h1).R e w1 base ok (.slice (some ⟨g, 0, none⟩) n cap) (ys.take n ++ xs.drop m) → Below base w0 w1 → W.grownBy w1 (some g) → wpList P ops Q rest (a.put o.dst (.int .i64 ((min m n : Nat) : Int))) w1) :
    wpList P ops Q (o :: rest) a W := by
  have hm : ys.length = m := HR.1
  have hn : n = xs.length := (Kd.R_reads' HO).1
  have hown := Kd.own_of_R HO
  obtain ⟨hlen, hr⟩ := hown
  rcases hr with ⟨hv, _⟩ | ⟨g', cap', cur, hv, hbg, hheap, hle, hmax, hsize, htake⟩
  · simp at hv
  · simp only [Value.slice.injEq, Option.some.injEq, Addr.mk.injEq, and_true] at hv
    obtain ⟨rfl, _, rfl⟩ := hv
    by_cases h0 : min m n = 0
    · refine wpList_copy_nothing hgd s x t t ho e ht hsz _ A n cap m c hs hx h0 ?_
      have hlist : ys.take n ++ xs.drop m = xs := by
        rcases Nat.eq_zero_or_pos m with hm0 | hm0
        · subst hm0
          rw [List.eq_nil_of_length_eq_zero hm]; simp
        · have hn0 : n = 0 := by omega
          have hx0 : xs = [] := List.eq_nil_of_length_eq_zero (by omega)
          rw [hn0, hx0]; simp
      have := h W (by rw [hlist]; exact HO) HB (World.grownBy.refl W _)
      rw [h0] at this
      exact this
    · obtain ⟨ad, rfl, hcell⟩ := (Kd.reads_of_C (d := d) HR).2.2 (by omega)
      have hcl : ((encs enc ys).take n).length = min m n := by rw [List.length_take, encs_length, hm]; omega
      refine wpList_copy_own hgd s x t t ho e ht hsz g 0 n cap ad m c hs hx cur e hheap ((encs enc ys).take n) hcl ?_ ?_ ?_ ?_
      · intro j v hj
        have hjn : j < n ∧ j < m := by
          obtain ⟨hl, _⟩ := List.getElem?_eq_some_iff.1 hj
          rw [hcl] at hl; omega
        rw [List.getElem?_take_of_lt hjn.1] at hj
        rw [hcell j hjn.2]
        simp only [encs, List.getElem?_map] at hj
        rw [List.getD_eq_getElem?_getD]
        cases hq : ys[j]? with
        | none => rw [hq] at hj; simp at hj
        | some y => rw [hq] at hj; simpa using hj
      · rw [hcl, hsize]; omega
      · intro v hv
        have := List.mem_of_mem_take hv
        simp only [encs, List.mem_map] at this
        obtain ⟨y, _, rfl⟩ := this
        exact h1 y
      · rw [hcl]
        refine h _ (Kd.R_of_own ⟨?_, .inr ⟨g, cap, _, ?_, hbg, setRow_heap W g cur _ e _ hheap, by rw [List.length_append, List.length_take, List.length_drop, hm]; omega, hmax, ?_, ?_⟩⟩ HO.1) (below_setRow HB hbg _) (grown_setRow W g _)
        · rw [encs_length]; omega
        · have : (ys.take n ++ xs.drop m).length = n := by rw [List.length_append, List.length_take, List.length_drop, hm]; omega
          rw [this]
        · simp only [List.size_toArray, List.length_append, List.length_take, List.length_drop, Array.length_toList, encs_length]; omega
        · have e1 : (ys.take n ++ xs.drop m).length = n := by rw [List.length_append, List.length_take, List.length_drop, hm]; omega
          rw [e1]
          have hx2 : cur.toList.take n = encs enc xs := by rw [← htake, ← hn, Nat.mul_one]
          have hcn : n ≤ cur.toList.length := by simp; omega
          simp only [List.take_zero, List.nil_append, Nat.zero_add, Nat.mul_one]
          rw [List.take_append, hcl, List.take_take, List.take_drop]
          simp only [encs, List.map_append, List.map_take, List.map_drop] at hx2 ⊢
          rw [Nat.min_self]
          congr 1
          rcases Nat.le_total m n with hmn | hmn
          · rw [Nat.min_eq_left hmn, show m + (n - m) = n from by omega, hx2]
          · rw [Nat.min_eq_right hmn, Nat.sub_self, Nat.add_zero, hx2, List.drop_eq_nil_of_le (by simp; omega), List.drop_eq_nil_of_le (by simp; omega)]
theorem R_copyAt {enc : α → Value} {h1 : ∀ x, (enc x).oneCell' = true} {w0 W : World} {e base g n cap : Nat} {ok : Nat → Prop} (d : α) (hgd : o.guard = none) (s x : Operand) (t : TypeId)
    (ho : o.op = .call { callee := .builtin .copy, args := #[s, x], argTypes := #[t, t] }) (ht : P.underlying t = some (.slice e)) (hsz : (P.info? e).map (·.size) = some 1)
    (xs ys : List α) (A : Option Addr) (m c off dn dc : Nat) (hs : a.eval s = .slice (some ⟨g, off, none⟩) dn dc) (hoff : off + dn = n) (hx : a.eval x = .slice A m c)
    (HO : (Kd.scalar enc h1).R e W base ok (.slice (some ⟨g, 0, none⟩) n cap) xs) (HR : (Kd.scalar enc h1).C W A m ys) (HB : Below base w0 W)
    (h : ∀ w1, (Kd.scalar enc h1).R e w1 base ok (.slice (some ⟨g, 0, none⟩) n cap) (xs.take off ++ (ys.take dn ++ xs.drop (off + m))) → Below base w0 w1 → W.grownBy w1 (some g) → wpList P ops Q rest (a.put o.dst (.int .i64 ((min m dn : Nat) : Int))) w1) :
    wpList P ops Q (o :: rest) a W := by
  have hm : ys.length = m := HR.1
  have hn : n = xs.length := (Kd.R_reads' HO).1
  have hown := Kd.own_of_R HO
  obtain ⟨hlen, hr⟩ := hown
  rcases hr with ⟨hv, _⟩ | ⟨g', cap', cur, hv, hbg, hheap, hle, hmax, hsize, htake⟩
  · simp at hv
  · simp only [Value.slice.injEq, Option.some.injEq, Addr.mk.injEq, and_true] at hv
    obtain ⟨rfl, _, rfl⟩ := hv
    by_cases h0 : min m dn = 0
    · refine wpList_copy_nothing hgd s x t t ho e ht hsz _ A dn dc m c hs hx h0 ?_
      have hlist : xs.take off ++ (ys.take dn ++ xs.drop (off + m)) = xs := by
        rcases Nat.eq_zero_or_pos m with hm0 | hm0
        · subst hm0
          rw [List.eq_nil_of_length_eq_zero hm]; simp
        · have hn0 : dn = 0 := by omega
          subst hn0
          rw [List.take_zero, List.nil_append, List.take_of_length_le (by omega), List.drop_eq_nil_of_le (by omega), List.append_nil]
      have := h W (by rw [hlist]; exact HO) HB (World.grownBy.refl W _)
      rw [h0] at this
      exact this
    · obtain ⟨ad, rfl, hcell⟩ := (Kd.reads_of_C (d := d) HR).2.2 (by omega)
      have hcl : ((encs enc ys).take dn).length = min m dn := by rw [List.length_take, encs_length, hm]; omega
      refine wpList_copy_own hgd s x t t ho e ht hsz g off dn dc ad m c hs hx cur e hheap ((encs enc ys).take dn) hcl ?_ ?_ ?_ ?_
      · intro j v hj
        have hjn : j < dn ∧ j < m := by
          obtain ⟨hl, _⟩ := List.getElem?_eq_some_iff.1 hj
          rw [hcl] at hl; omega
        rw [List.getElem?_take_of_lt hjn.1] at hj
        rw [hcell j hjn.2]
        simp only [encs, List.getElem?_map] at hj
        rw [List.getD_eq_getElem?_getD]
        cases hq : ys[j]? with
        | none => rw [hq] at hj; simp at hj
        | some y => rw [hq] at hj; simpa using hj
      · rw [hcl, hsize]; omega
      · intro v hv
        have := List.mem_of_mem_take hv
        simp only [encs, List.mem_map] at this
        obtain ⟨y, _, rfl⟩ := this
        exact h1 y
      · rw [hcl]
        have e1 : (xs.take off ++ (ys.take dn ++ xs.drop (off + m))).length = n := by simp only [List.length_append, List.length_take, List.length_drop]; omega
        refine h _ (Kd.R_of_own ⟨?_, .inr ⟨g, cap, _, ?_, hbg, setRow_heap W g cur _ e _ hheap, by rw [e1]; omega, hmax, ?_, ?_⟩⟩ HO.1) (below_setRow HB hbg _) (grown_setRow W g _)
        · rw [encs_length, e1, Nat.mul_one]
        · rw [e1]
        · simp only [List.size_toArray, List.length_append, List.length_take, List.length_drop, Array.length_toList, encs_length]; omega
        · rw [e1]
          have hx2 : cur.toList.take n = encs enc xs := by rw [← htake, ← hn, Nat.mul_one]
          have hcn : n ≤ cur.toList.length := by simp; omega
          simp only [Nat.mul_one]
          have ho1 : off ≤ n := by omega
          rw [List.take_append, List.length_take, Nat.min_eq_left (by omega), List.take_take, Nat.min_eq_right ho1, List.take_append, hcl, List.take_take, List.take_drop]
          simp only [encs, List.map_append, List.map_take, List.map_drop] at hx2 ⊢
          rw [← hx2, List.take_take, Nat.min_eq_left ho1]
          congr 1
          rw [show n - off = dn from by omega, Nat.min_self]
          congr 1
          rcases Nat.le_total m dn with hmn | hmn
          · rw [Nat.min_eq_left hmn, List.drop_take, show off + m + (dn - m) = n from by omega]; simp [List.drop_take]
          · rw [Nat.min_eq_right hmn, Nat.sub_self, Nat.add_zero, List.drop_eq_nil_of_le (by simp; omega), List.drop_eq_nil_of_le (by simp; omega)]
end
end Go.Proofs.YtiiolhnpnlmkjaaDoor.Math
