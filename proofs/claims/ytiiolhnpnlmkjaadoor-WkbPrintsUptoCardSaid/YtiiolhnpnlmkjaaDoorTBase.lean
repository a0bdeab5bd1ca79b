/- Points, trees, nodes and items of lists as Lean values, and what memory's cells say of them. No conditions. -/
import Derived.Test.YtiiolhnpnlmkjaaDoorProg
import Derived.Test.YtiiolhnpnlmkjaaDoorWMore
namespace Go.Proofs.YtiiolhnpnlmkjaaDoor.Tree
open Go.RowKit Go.Proofs.YtiiolhnpnlmkjaaDoorW.PrintWords Go.Proofs.YtiiolhnpnlmkjaaDoorW.PrintLast Go.Proofs.YtiiolhnpnlmkjaaDoorW.PrintMore
set_option linter.unusedVariables false

/-! #### struct type 82 -/
structure Pt where
  f0 : Int
  f1 : Int
def zPt : Pt := ⟨(0 : Int), (0 : Int)⟩
def kPt : Kd Pt := Kd.iso (Kd.pair (Kd.int .u64) (Kd.int .u64)) (fun x : Pt => (x.f0, x.f1))
theorem kPt_open {w : World} {x : Pt} {cs : List Value} (h : kPt.K w x cs) : cs = [.int .u64 x.f0, .int .u64 x.f1] := by
  obtain ⟨_, _, rfl, rfl, rfl⟩ := h
  exact rfl
theorem kPt_openM {w : World} {base : Nat} {ok : Nat → Prop} {x : Pt} {cs : List Value} (h : kPt.M w base ok x cs) : cs = [.int .u64 x.f0, .int .u64 x.f1] := by
  obtain ⟨_, _, rfl, rfl, rfl⟩ := h
  exact rfl
theorem kPt_mk (w : World) (x : Pt)  : kPt.K w x [.int .u64 x.f0, .int .u64 x.f1] := ⟨[.int .u64 x.f0], [.int .u64 x.f1], rfl, rfl, rfl⟩
theorem kPt_mkM (w : World) (base : Nat) (ok : Nat → Prop) (x : Pt)  : kPt.M w base ok x [.int .u64 x.f0, .int .u64 x.f1] := ⟨[.int .u64 x.f0], [.int .u64 x.f1], rfl, rfl, rfl⟩
def rd_Pt (xs : List Pt) (i : Int) : Pt := xs.getD i.toNat zPt
theorem at_Pt {w : World} {A : Option Addr} {n : Nat} {xs : List Pt} (h : Kd.C kPt w A n xs) (i : Int) (h0 : 0 ≤ i) (h1 : i < n) : ∃ ad , A = some ad ∧ w.cell? (ad.add (i.toNat * 2)) = some (.int .u64 (rd_Pt xs i).f0) ∧ w.cell? ⟨(ad.add (i.toNat * 2)).block, (ad.add (i.toNat * 2)).off + 1, none⟩ = some (.int .u64 (rd_Pt xs i).f1) := by
  obtain ⟨ad, c, e, _, hK, hc0⟩ := Kd.C_get h zPt i h0 h1
  have hc : ∀ j u, c[j]? = some u → w.cell? (ad.add (i.toNat * 2 + j)) = some u := hc0
  obtain rfl := kPt_open hK
  exact ⟨ad, e, hc 0 _ rfl, by rw [← add_field _ _ 1 (by omega)]; exact hc 1 _ rfl⟩

def rd_L2 (xs : List (List Pt)) (i : Int) : (List Pt) := xs.getD i.toNat ([] : List Pt)
theorem at_L2 {w : World} {A : Option Addr} {n : Nat} {xs : List (List Pt)} (h : Kd.C (Kd.slice 82 kPt) w A n xs) (i : Int) (h0 : 0 ≤ i) (h1 : i < n) : ∃ ad A0 c0, A = some ad ∧ w.cell? (ad.add i.toNat) = some (.slice A0 (rd_L2 xs i).length c0) ∧ (rd_L2 xs i).length ≤ c0 ∧ kPt.C w A0 (rd_L2 xs i).length (rd_L2 xs i) := by
  obtain ⟨ad, c, e, _, hK, hc0⟩ := Kd.C_get h ([] : List Pt) i h0 h1
  have hc : ∀ j u, c[j]? = some u → w.cell? (ad.add (i.toNat * 1 + j)) = some u := hc0
  obtain ⟨A0, c0, rfl, l0, g0⟩ := hK
  exact ⟨ad, A0, c0, e, by have hq := hc 0 _ rfl; rwa [Nat.mul_one, Nat.add_zero] at hq, l0, g0⟩

def rd_L3 (xs : List (List (List Pt))) (i : Int) : (List (List Pt)) := xs.getD i.toNat ([] : List (List Pt))
theorem at_L3 {w : World} {A : Option Addr} {n : Nat} {xs : List (List (List Pt))} (h : Kd.C (Kd.slice 24 (Kd.slice 82 kPt)) w A n xs) (i : Int) (h0 : 0 ≤ i) (h1 : i < n) : ∃ ad A0 c0, A = some ad ∧ w.cell? (ad.add i.toNat) = some (.slice A0 (rd_L3 xs i).length c0) ∧ (rd_L3 xs i).length ≤ c0 ∧ (Kd.slice 82 kPt).C w A0 (rd_L3 xs i).length (rd_L3 xs i) := by
  obtain ⟨ad, c, e, _, hK, hc0⟩ := Kd.C_get h ([] : List (List Pt)) i h0 h1
  have hc : ∀ j u, c[j]? = some u → w.cell? (ad.add (i.toNat * 1 + j)) = some u := hc0
  obtain ⟨A0, c0, rfl, l0, g0⟩ := hK
  exact ⟨ad, A0, c0, e, by have hq := hc 0 _ rfl; rwa [Nat.mul_one, Nat.add_zero] at hq, l0, g0⟩

/-! #### struct type 28, nested in itself -/
structure Ge where
  f0 : Int
  f1 : (List Pt)
  f2 : (List (List Pt))
  f3 : (List Ge)
def zGe : Ge := ⟨(0 : Int), ([] : List Pt), ([] : List (List Pt)), ([] : List Ge)⟩
def FGe (d : Kd Ge) : Kd Ge := Kd.iso (Kd.pair (Kd.int .i64) (Kd.pair (Kd.slice 82 kPt) (Kd.pair (Kd.slice 24 (Kd.slice 82 kPt)) (Kd.slice 28 d)))) (fun x : Ge => (x.f0, x.f1, x.f2, x.f3))
theorem monoGe : Kd.Mono FGe := Kd.mono_iso _ (Kd.mono_pair (Kd.mono_const _) (Kd.mono_pair (Kd.mono_const _) (Kd.mono_pair (Kd.mono_const _) (Kd.mono_slice 28 Kd.mono_id))))
theorem subGe : Kd.Sub FGe [24, 28, 82] := Kd.sub_iso _ (Kd.sub_pair (Kd.sub_const _ (by decide)) (Kd.sub_pair (Kd.sub_const _ (by decide)) (Kd.sub_pair (Kd.sub_const _ (by decide)) (Kd.sub_slice 28 (by decide) Kd.sub_id))))
theorem szGe : ∀ n, (Kd.upto FGe 4 [24, 28, 82] n).sz = 4 := Kd.upto_sz (fun _ => rfl)
def kGe : Kd Ge := Kd.fix FGe 4 [24, 28, 82] szGe (Kd.upto_E subGe)
theorem kGe_open {w : World} {x : Ge} {cs : List Value} (h : kGe.K w x cs) : ∃ A1 c1 A2 c2 A3 c3, cs = [.int .i64 x.f0, .slice A1 x.f1.length c1, .slice A2 x.f2.length c2, .slice A3 x.f3.length c3] ∧ x.f1.length ≤ c1 ∧ kPt.C w A1 x.f1.length x.f1 ∧ x.f2.length ≤ c2 ∧ (Kd.slice 82 kPt).C w A2 x.f2.length x.f2 ∧ x.f3.length ≤ c3 ∧ kGe.C w A3 x.f3.length x.f3 := by
  obtain ⟨n, h⟩ := h
  cases n with
  | zero => exact h.elim
  | succ n =>
    obtain ⟨_, _, rfl, rfl, ⟨_, _, rfl, ⟨A1, c1, rfl, l1, g1⟩, ⟨_, _, rfl, ⟨A2, c2, rfl, l2, g2⟩, ⟨A3, c3, rfl, l3, g3⟩⟩⟩⟩ := h
    exact ⟨A1, c1, A2, c2, A3, c3, rfl, l1, g1, l2, g2, l3, Kd.fix_C g3⟩
theorem kGe_openM {w : World} {base : Nat} {ok : Nat → Prop} {x : Ge} {cs : List Value} (h : kGe.M w base ok x cs) : ∃ v1 v2 v3, cs = [.int .i64 x.f0, v1, v2, v3] ∧ kPt.R 82 w base ok v1 x.f1 ∧ (Kd.slice 82 kPt).R 24 w base ok v2 x.f2 ∧ kGe.R 28 w base ok v3 x.f3 := by
  obtain ⟨n, h⟩ := h
  cases n with
  | zero => exact h.elim
  | succ n =>
    obtain ⟨_, _, rfl, rfl, ⟨_, _, rfl, ⟨v1, rfl, g1⟩, ⟨_, _, rfl, ⟨v2, rfl, g2⟩, ⟨v3, rfl, g3⟩⟩⟩⟩ := h
    exact ⟨v1, v2, v3, rfl, g1, g2, Kd.fix_R g3⟩
theorem kGe_mk (w : World) (x : Ge) {A1 : Option Addr} {c1 : Nat} (l1 : x.f1.length ≤ c1) (g1 : kPt.C w A1 x.f1.length x.f1) {A2 : Option Addr} {c2 : Nat} (l2 : x.f2.length ≤ c2) (g2 : (Kd.slice 82 kPt).C w A2 x.f2.length x.f2) {A3 : Option Addr} {c3 : Nat} (l3 : x.f3.length ≤ c3) (g3 : kGe.C w A3 x.f3.length x.f3) : kGe.K w x [.int .i64 x.f0, .slice A1 x.f1.length c1, .slice A2 x.f2.length c2, .slice A3 x.f3.length c3] := by
  obtain ⟨n3, q3⟩ := Kd.fix_C_back monoGe g3
  have r3 := Kd.upto_C_le monoGe szGe (show n3 ≤ n3 by omega) q3
  exact ⟨n3 + 1, ⟨[.int .i64 x.f0], [.slice A1 x.f1.length c1, .slice A2 x.f2.length c2, .slice A3 x.f3.length c3], rfl, rfl, ⟨[.slice A1 x.f1.length c1], [.slice A2 x.f2.length c2, .slice A3 x.f3.length c3], rfl, ⟨A1, c1, rfl, l1, g1⟩, ⟨[.slice A2 x.f2.length c2], [.slice A3 x.f3.length c3], rfl, ⟨A2, c2, rfl, l2, g2⟩, ⟨A3, c3, rfl, l3, r3⟩⟩⟩⟩⟩
theorem kGe_mkM (w : World) (base : Nat) (ok : Nat → Prop) (x : Ge) {v1 : Value} (g1 : kPt.R 82 w base ok v1 x.f1) {v2 : Value} (g2 : (Kd.slice 82 kPt).R 24 w base ok v2 x.f2) {v3 : Value} (g3 : kGe.R 28 w base ok v3 x.f3) : kGe.M w base ok x [.int .i64 x.f0, v1, v2, v3] := by
  obtain ⟨n3, q3⟩ := Kd.fix_R_back monoGe g3
  have r3 := Kd.upto_R_le monoGe szGe (show n3 ≤ n3 by omega) q3
  exact ⟨n3 + 1, ⟨[.int .i64 x.f0], [v1, v2, v3], rfl, rfl, ⟨[v1], [v2, v3], rfl, ⟨v1, rfl, g1⟩, ⟨[v2], [v3], rfl, ⟨v2, rfl, g2⟩, ⟨v3, rfl, r3⟩⟩⟩⟩⟩
def rd_Ge (xs : List Ge) (i : Int) : Ge := xs.getD i.toNat zGe
theorem at_Ge {w : World} {A : Option Addr} {n : Nat} {xs : List Ge} (h : Kd.C kGe w A n xs) (i : Int) (h0 : 0 ≤ i) (h1 : i < n) : ∃ ad A1 c1 A2 c2 A3 c3, A = some ad ∧ w.cell? (ad.add (i.toNat * 4)) = some (.int .i64 (rd_Ge xs i).f0) ∧ w.cell? ⟨(ad.add (i.toNat * 4)).block, (ad.add (i.toNat * 4)).off + 1, none⟩ = some (.slice A1 (rd_Ge xs i).f1.length c1) ∧ w.cell? ⟨(ad.add (i.toNat * 4)).block, (ad.add (i.toNat * 4)).off + 2, none⟩ = some (.slice A2 (rd_Ge xs i).f2.length c2) ∧ w.cell? ⟨(ad.add (i.toNat * 4)).block, (ad.add (i.toNat * 4)).off + 3, none⟩ = some (.slice A3 (rd_Ge xs i).f3.length c3) ∧ (rd_Ge xs i).f1.length ≤ c1 ∧ kPt.C w A1 (rd_Ge xs i).f1.length (rd_Ge xs i).f1 ∧ (rd_Ge xs i).f2.length ≤ c2 ∧ (Kd.slice 82 kPt).C w A2 (rd_Ge xs i).f2.length (rd_Ge xs i).f2 ∧ (rd_Ge xs i).f3.length ≤ c3 ∧ kGe.C w A3 (rd_Ge xs i).f3.length (rd_Ge xs i).f3 := by
  obtain ⟨ad, c, e, _, hK, hc0⟩ := Kd.C_get h zGe i h0 h1
  have hc : ∀ j u, c[j]? = some u → w.cell? (ad.add (i.toNat * 4 + j)) = some u := hc0
  obtain ⟨A1, c1, A2, c2, A3, c3, rfl, l1, g1, l2, g2, l3, g3⟩ := kGe_open hK
  exact ⟨ad, A1, c1, A2, c2, A3, c3, e, hc 0 _ rfl, by rw [← add_field _ _ 1 (by omega)]; exact hc 1 _ rfl, by rw [← add_field _ _ 2 (by omega)]; exact hc 2 _ rfl, by rw [← add_field _ _ 3 (by omega)]; exact hc 3 _ rfl, l1, g1, l2, g2, l3, g3⟩

/-! #### struct type 139 -/
structure It where
  f0 : Ge
  f1 : Int
  f2 : Int
def zIt : It := ⟨zGe, (0 : Int), (0 : Int)⟩
def kIt : Kd It := Kd.iso (Kd.pair kGe (Kd.pair (Kd.int .i64) (Kd.int .i64))) (fun x : It => (x.f0, x.f1, x.f2))
theorem kIt_open {w : World} {x : It} {cs : List Value} (h : kIt.K w x cs) : ∃ A1 c1 A2 c2 A3 c3, cs = [.int .i64 x.f0.f0, .slice A1 x.f0.f1.length c1, .slice A2 x.f0.f2.length c2, .slice A3 x.f0.f3.length c3, .int .i64 x.f1, .int .i64 x.f2] ∧ x.f0.f1.length ≤ c1 ∧ kPt.C w A1 x.f0.f1.length x.f0.f1 ∧ x.f0.f2.length ≤ c2 ∧ (Kd.slice 82 kPt).C w A2 x.f0.f2.length x.f0.f2 ∧ x.f0.f3.length ≤ c3 ∧ kGe.C w A3 x.f0.f3.length x.f0.f3 := by
  obtain ⟨_, _, rfl, s0, ⟨_, _, rfl, rfl, rfl⟩⟩ := h
  obtain ⟨A1, c1, A2, c2, A3, c3, rfl, l1, g1, l2, g2, l3, g3⟩ := kGe_open s0
  exact ⟨A1, c1, A2, c2, A3, c3, rfl, l1, g1, l2, g2, l3, g3⟩
theorem kIt_openM {w : World} {base : Nat} {ok : Nat → Prop} {x : It} {cs : List Value} (h : kIt.M w base ok x cs) : ∃ v1 v2 v3, cs = [.int .i64 x.f0.f0, v1, v2, v3, .int .i64 x.f1, .int .i64 x.f2] ∧ kPt.R 82 w base ok v1 x.f0.f1 ∧ (Kd.slice 82 kPt).R 24 w base ok v2 x.f0.f2 ∧ kGe.R 28 w base ok v3 x.f0.f3 := by
  obtain ⟨_, _, rfl, s0, ⟨_, _, rfl, rfl, rfl⟩⟩ := h
  obtain ⟨v1, v2, v3, rfl, g1, g2, g3⟩ := kGe_openM s0
  exact ⟨v1, v2, v3, rfl, g1, g2, g3⟩
theorem kIt_mk (w : World) (x : It) {A1 : Option Addr} {c1 : Nat} (l1 : x.f0.f1.length ≤ c1) (g1 : kPt.C w A1 x.f0.f1.length x.f0.f1) {A2 : Option Addr} {c2 : Nat} (l2 : x.f0.f2.length ≤ c2) (g2 : (Kd.slice 82 kPt).C w A2 x.f0.f2.length x.f0.f2) {A3 : Option Addr} {c3 : Nat} (l3 : x.f0.f3.length ≤ c3) (g3 : kGe.C w A3 x.f0.f3.length x.f0.f3) : kIt.K w x [.int .i64 x.f0.f0, .slice A1 x.f0.f1.length c1, .slice A2 x.f0.f2.length c2, .slice A3 x.f0.f3.length c3, .int .i64 x.f1, .int .i64 x.f2] := ⟨[.int .i64 x.f0.f0, .slice A1 x.f0.f1.length c1, .slice A2 x.f0.f2.length c2, .slice A3 x.f0.f3.length c3], [.int .i64 x.f1, .int .i64 x.f2], rfl, (kGe_mk w x.f0 l1 g1 l2 g2 l3 g3), ⟨[.int .i64 x.f1], [.int .i64 x.f2], rfl, rfl, rfl⟩⟩
theorem kIt_mkM (w : World) (base : Nat) (ok : Nat → Prop) (x : It) {v1 : Value} (g1 : kPt.R 82 w base ok v1 x.f0.f1) {v2 : Value} (g2 : (Kd.slice 82 kPt).R 24 w base ok v2 x.f0.f2) {v3 : Value} (g3 : kGe.R 28 w base ok v3 x.f0.f3) : kIt.M w base ok x [.int .i64 x.f0.f0, v1, v2, v3, .int .i64 x.f1, .int .i64 x.f2] := ⟨[.int .i64 x.f0.f0, v1, v2, v3], [.int .i64 x.f1, .int .i64 x.f2], rfl, (kGe_mkM w base ok x.f0 g1 g2 g3), ⟨[.int .i64 x.f1], [.int .i64 x.f2], rfl, rfl, rfl⟩⟩
def rd_It (xs : List It) (i : Int) : It := xs.getD i.toNat zIt
theorem at_It {w : World} {A : Option Addr} {n : Nat} {xs : List It} (h : Kd.C kIt w A n xs) (i : Int) (h0 : 0 ≤ i) (h1 : i < n) : ∃ ad A1 c1 A2 c2 A3 c3, A = some ad ∧ w.cell? (ad.add (i.toNat * 6)) = some (.int .i64 (rd_It xs i).f0.f0) ∧ w.cell? ⟨(ad.add (i.toNat * 6)).block, (ad.add (i.toNat * 6)).off + 1, none⟩ = some (.slice A1 (rd_It xs i).f0.f1.length c1) ∧ w.cell? ⟨(ad.add (i.toNat * 6)).block, (ad.add (i.toNat * 6)).off + 2, none⟩ = some (.slice A2 (rd_It xs i).f0.f2.length c2) ∧ w.cell? ⟨(ad.add (i.toNat * 6)).block, (ad.add (i.toNat * 6)).off + 3, none⟩ = some (.slice A3 (rd_It xs i).f0.f3.length c3) ∧ w.cell? ⟨(ad.add (i.toNat * 6)).block, (ad.add (i.toNat * 6)).off + 4, none⟩ = some (.int .i64 (rd_It xs i).f1) ∧ w.cell? ⟨(ad.add (i.toNat * 6)).block, (ad.add (i.toNat * 6)).off + 5, none⟩ = some (.int .i64 (rd_It xs i).f2) ∧ (rd_It xs i).f0.f1.length ≤ c1 ∧ kPt.C w A1 (rd_It xs i).f0.f1.length (rd_It xs i).f0.f1 ∧ (rd_It xs i).f0.f2.length ≤ c2 ∧ (Kd.slice 82 kPt).C w A2 (rd_It xs i).f0.f2.length (rd_It xs i).f0.f2 ∧ (rd_It xs i).f0.f3.length ≤ c3 ∧ kGe.C w A3 (rd_It xs i).f0.f3.length (rd_It xs i).f0.f3 := by
  obtain ⟨ad, c, e, _, hK, hc0⟩ := Kd.C_get h zIt i h0 h1
  have hc : ∀ j u, c[j]? = some u → w.cell? (ad.add (i.toNat * 6 + j)) = some u := hc0
  obtain ⟨A1, c1, A2, c2, A3, c3, rfl, l1, g1, l2, g2, l3, g3⟩ := kIt_open hK
  exact ⟨ad, A1, c1, A2, c2, A3, c3, e, hc 0 _ rfl, by rw [← add_field _ _ 1 (by omega)]; exact hc 1 _ rfl, by rw [← add_field _ _ 2 (by omega)]; exact hc 2 _ rfl, by rw [← add_field _ _ 3 (by omega)]; exact hc 3 _ rfl, by rw [← add_field _ _ 4 (by omega)]; exact hc 4 _ rfl, by rw [← add_field _ _ 5 (by omega)]; exact hc 5 _ rfl, l1, g1, l2, g2, l3, g3⟩

/-! ### values, addresses -/
/-- A tree as a value. -/
def IsG (w : World) (v : Value) (g : Ge) : Prop := ∃ A1 c1 A2 c2 A3 c3, v = .agg #[.int .i64 g.f0, .slice A1 g.f1.length c1, .slice A2 g.f2.length c2, .slice A3 g.f3.length c3] ∧
  g.f1.length ≤ c1 ∧ Kd.C kPt w A1 g.f1.length g.f1 ∧ g.f2.length ≤ c2 ∧ Kd.C (Kd.slice 82 kPt) w A2 g.f2.length g.f2 ∧ g.f3.length ≤ c3 ∧ Kd.C kGe w A3 g.f3.length g.f3
/-- A tree's root at an address. -/
def GAt (w : World) (ad : Addr) (g : Ge) : Prop := ∃ A1 c1 A2 c2 A3 c3, w.cell? ad = some (.int .i64 g.f0) ∧ w.cell? ⟨ad.block, ad.off + 1, none⟩ = some (.slice A1 g.f1.length c1) ∧ w.cell? ⟨ad.block, ad.off + 2, none⟩ = some (.slice A2 g.f2.length c2) ∧ w.cell? ⟨ad.block, ad.off + 3, none⟩ = some (.slice A3 g.f3.length c3) ∧
  g.f1.length ≤ c1 ∧ Kd.C kPt w A1 g.f1.length g.f1 ∧ g.f2.length ≤ c2 ∧ Kd.C (Kd.slice 82 kPt) w A2 g.f2.length g.f2 ∧ g.f3.length ≤ c3 ∧ Kd.C kGe w A3 g.f3.length g.f3
theorem cell_below {w w1 : World} (hb : Below w.heap.size w w1) {a : Addr} {v : Value} (h : w.cell? a = some v) : w1.cell? a = some v := (hb.cell (World.block_lt_of_cell? w a h)).trans h
theorem IsG.below {w w1 : World} {v : Value} {g : Ge} (h : IsG w v g) (hb : Below w.heap.size w w1) : IsG w1 v g := by
  obtain ⟨A1, c1, A2, c2, A3, c3, e, l1, h1, l2, h2, l3, h3⟩ := h
  exact ⟨A1, c1, A2, c2, A3, c3, e, l1, Kd.C_below h1 hb, l2, Kd.C_below h2 hb, l3, Kd.C_below h3 hb⟩
theorem GAt.below {w w1 : World} {ad : Addr} {g : Ge} (h : GAt w ad g) (hb : Below w.heap.size w w1) : GAt w1 ad g := by
  obtain ⟨A1, c1, A2, c2, A3, c3, e0, e1, e2, e3, l1, h1, l2, h2, l3, h3⟩ := h
  exact ⟨A1, c1, A2, c2, A3, c3, cell_below hb e0, cell_below hb e1, cell_below hb e2, cell_below hb e3, l1, Kd.C_below h1 hb, l2, Kd.C_below h2 hb, l3, Kd.C_below h3 hb⟩
theorem GAt.lt {w : World} {ad : Addr} {g : Ge} (h : GAt w ad g) : ad.block < w.heap.size := by
  obtain ⟨A1, c1, A2, c2, A3, c3, e0, _⟩ := h
  exact World.block_lt_of_cell? w _ e0
/-- A part of a list of trees. -/
theorem GAt.part {w : World} {A : Option Addr} {n : Nat} {xs : List Ge} (h : Kd.C kGe w A n xs) (i : Int) (h0 : 0 ≤ i) (h1 : i < n) : ∃ ad, A = some ad ∧ GAt w (ad.add (i.toNat * 4)) (rd_Ge xs i) := by
  obtain ⟨ad, A1, c1, A2, c2, A3, c3, e, e0, e1, e2, e3, r⟩ := at_Ge h i h0 h1
  exact ⟨ad, e, A1, c1, A2, c2, A3, c3, e0, e1, e2, e3, r⟩
theorem IsG.k {w : World} {v : Value} {g : Ge} (h : IsG w v g) : ∃ cs, v = .agg cs.toArray ∧ kGe.K w g cs := by
  obtain ⟨A1, c1, A2, c2, A3, c3, e, l1, h1, l2, h2, l3, h3⟩ := h
  exact ⟨_, e, kGe_mk w g l1 h1 l2 h2 l3 h3⟩
theorem IsG.of {w : World} {cs : List Value} {g : Ge} (h : kGe.K w g cs) : IsG w (.agg cs.toArray) g := by
  obtain ⟨A1, c1, A2, c2, A3, c3, rfl, r⟩ := kGe_open h
  exact ⟨A1, c1, A2, c2, A3, c3, rfl, r⟩
end Go.Proofs.YtiiolhnpnlmkjaaDoor.Tree
