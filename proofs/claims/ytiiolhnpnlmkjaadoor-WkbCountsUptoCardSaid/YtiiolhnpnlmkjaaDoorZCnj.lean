/- Texts of this claim laid one behind the other (TMkT; TGrown; TParseL; TCoordsS; TWalk; THurtL; TCntL; PCt; TBytes; TEqSem; TSame; TEqualW): what each proves stands at its own names; the last one is the claim's. No conditions but those told. -/
import Derived.Test.YtiiolhnpnlmkjaaDoorZCni
import Derived.Test.YtiiolhnpnlmkjaaDoorProg
import Derived.Below
import Derived.Deep.Draws
import Derived.Deep.AppendLies
import Derived.Maps.AppendAt
import Derived.OwnWalk
import Derived.Laws.BytesArg
import Derived.Laws.MakeOwn
import Derived.Laws.OwnMore
import Derived.Deep.OwnRows
import Derived.Tactics
import Derived.Lib.ConvBytes
import Derived.Laws.Slices
import Derived.WalkKit
import Derived.KernelRfl
import Derived.RowKit3
import Derived.Deep.LoopGhost
import Derived.Deep.QuietTactic
import Derived.BigQuiet
import Derived.WideLaws
import Derived.Deep.DeepCutAuto
import Derived.Deep.CutBlock
import Derived.Deep.RegionHeld3
import Derived.Laws.Rows
import Derived.Lib.AppendStr
import Derived.ArgAppend
import Derived.Laws.IdiomCopy
import Derived.OrdersHeld
import Derived.Laws.BitsLemmas
import Derived.RowKit
import Derived.Test.YtiiolhnpnlmkjaaDoorMathCopy
import Derived.Test.YtiiolhnpnlmkjaaDoorMathMake
import Derived.IntWalk
import Derived.Laws.BitsAllLaws
import Derived.RegionTactic
import Derived.Test.YtiiolhnpnlmkjaaDoorWWords
import Derived.Test.YtiiolhnpnlmkjaaDoorWLast
import Derived.Test.YtiiolhnpnlmkjaaDoorWTab
import Derived.Test.YtiiolhnpnlmkjaaDoorWFour
import Derived.Test.YtiiolhnpnlmkjaaDoorWQPut
import Derived.Test.YtiiolhnpnlmkjaaDoorWApart
import Derived.Test.YtiiolhnpnlmkjaaDoorWArr
import Derived.Test.YtiiolhnpnlmkjaaDoorWZeros
import Derived.Test.YtiiolhnpnlmkjaaDoorWFoot
import Derived.Test.YtiiolhnpnlmkjaaDoorWKept
import Derived.Test.YtiiolhnpnlmkjaaDoorWShare
import Derived.Test.YtiiolhnpnlmkjaaDoorWN
import Derived.Test.YtiiolhnpnlmkjaaDoorWFootNe
import Derived.Test.YtiiolhnpnlmkjaaDoorWAt
import Derived.Test.YtiiolhnpnlmkjaaDoorWEqStruct
import Derived.Test.YtiiolhnpnlmkjaaDoorWRepsOne
import Derived.Test.YtiiolhnpnlmkjaaDoorWInv
import Derived.Test.YtiiolhnpnlmkjaaDoorWInvWords
import Derived.Test.YtiiolhnpnlmkjaaDoorWGuard
import Derived.Test.YtiiolhnpnlmkjaaDoorWNEv
import Derived.Test.YtiiolhnpnlmkjaaDoorWMore
import Derived.RangeFuncRecord
namespace Go.Proofs.YtiiolhnpnlmkjaaDoor.Tree
open Go.RowKit Go.Proofs.YtiiolhnpnlmkjaaDoor.PWkbPrints Go.Proofs.YtiiolhnpnlmkjaaDoorW.PrintWords Go.Proofs.YtiiolhnpnlmkjaaDoorW.PrintLast Go.Proofs.YtiiolhnpnlmkjaaDoorW.PrintMore Go.Proofs.YtiiolhnpnlmkjaaDoor.PMk
attribute [local go_sem] Oper.semAt_some max2_int max_two min2_int min_two
end Go.Proofs.YtiiolhnpnlmkjaaDoor.Tree
namespace Go.Proofs.YtiiolhnpnlmkjaaDoor.Tree
open Go.RowKit Go.Proofs.YtiiolhnpnlmkjaaDoor.PWkbPrints Go.Proofs.YtiiolhnpnlmkjaaDoorW.PrintWords Go.Proofs.YtiiolhnpnlmkjaaDoorW.PrintLast Go.Proofs.YtiiolhnpnlmkjaaDoorW.PrintMore
theorem st_self (X : List Int) : St X 0 X := ⟨[], by simp⟩
theorem parse_ok (A : Option Addr) (c : Nat) (b : List Int) (depth most : Int) (W : World) (g : Ge) (os : List Bool) (hC : kB.C W A b.length b) (hc : b.length ≤ c) (hl : b.length ≤ 1048576) (h : parsedR b depth most = .ok (g, os)) :
    Calls Tryd.prog 13 #[.slice A b.length c, .int .i64 depth, .int .i64 most] W fun e W' => ∃ A1 c1 A2 c2 A3 c3, e = .returned (.tuple #[.agg #[.int .i64 g.f0, .slice A1 g.f1.length c1, .slice A2 g.f2.length c2, .slice A3 g.f3.length c3], .nilIface]) ∧
      CopyOf 257 W W' (.agg #[.int .i64 g.f0, .slice A1 g.f1.length c1, .slice A2 g.f2.length c2, .slice A3 g.f3.length c3]) g ∧ Below W.heap.size W W' := by
  refine (parse_calls A c b depth most W hC hc hl).mono ?_
  rintro e W' ⟨u, ev, rfl, hb, -, hO⟩
  obtain ⟨rfl, hcp⟩ := hO _ h
  obtain ⟨A1, c1, A2, c2, A3, c3, rfl, _⟩ := hcp.isG
  exact ⟨A1, c1, A2, c2, A3, c3, rfl, hcp, hb⟩
theorem parse_err (A : Option Addr) (c : Nat) (b : List Int) (depth most : Int) (W : World) (x : Int × Int) (hC : kB.C W A b.length b) (hc : b.length ≤ c) (hl : b.length ≤ 1048576) (h : parsedR b depth most = .error x) :
    Calls Tryd.prog 13 #[.slice A b.length c, .int .i64 depth, .int .i64 most] W fun e W' => ∃ ge : Nat, e = .returned (.tuple #[.agg #[.int .i64 0, .slice none 0 0, .slice none 0 0, .slice none 0 0], .iface 109 (.pointer (some ⟨ge, 0, none⟩))]) ∧
      ErrV W' (.iface 109 (.pointer (some ⟨ge, 0, none⟩))) (some x) ∧ Below W.heap.size W W' := by
  refine (parse_calls A c b depth most W hC hc hl).mono ?_
  rintro e W' ⟨u, ev, rfl, hb, hE, -⟩
  obtain ⟨rfl, hev⟩ := hE _ h
  obtain ⟨ge, rfl⟩ := ErrV.iface hev
  exact ⟨ge, rfl, hev, hb⟩
theorem byte_lit (W : World) (v : Int) : kB.C (W.alloc (.cells #[.int .u8 v] 5)) (some ⟨W.heap.size, 0, none⟩) 1 [v] := by
  have h := World.alloc_heap_new W (.cells #[.int .u8 v] 5)
  refine ⟨rfl, by decide, fun _ => ⟨_, rfl, fun i x hi => ?_⟩⟩
  match i with
  | 0 =>
    simp at hi
    subst hi
    refine ⟨[.int .u8 v], rfl, rfl, fun j u hj => ?_⟩
    match j with
    | 0 =>
      simp at hj
      subst hj
      exact (blk_cell h 0).trans rfl
    | j + 1 => simp at hj
  | i + 1 => simp at hi
theorem put32_any (A : Option Addr) (c : Nat) (l : List Int) (v : Int) (le : Bool) (W : World) (hC : kB.C W A l.length l) (hc : l.length ≤ c) (hl : l.length ≤ 100) : Calls Tryd.prog 35 #[.slice A l.length c, .int .u32 v, .bool le] W fun e W' => ∃ u, e = .returned u ∧ kB.R 5 W' W.heap.size (fun _ => True) u (l ++ P32 v le) ∧ Below W.heap.size W W' :=
  octet_Put32.calls A c l v le (l ++ P32 v le) W hC hc (by unfold octet_Put32.f octet_put_uint32.f; rw [if_pos ⟨rfl, by omega⟩]; cases le <;> rfl)
end Go.Proofs.YtiiolhnpnlmkjaaDoor.Tree
namespace Go.Proofs.YtiiolhnpnlmkjaaDoor.Tree
open Go.RowKit Go.Proofs.YtiiolhnpnlmkjaaDoor.PWkbPrints Go.Proofs.YtiiolhnpnlmkjaaDoorW.PrintWords Go.Proofs.YtiiolhnpnlmkjaaDoorW.PrintLast Go.Proofs.YtiiolhnpnlmkjaaDoorW.PrintMore
attribute [local go_sem] Oper.semAt_some max2_int max_two min2_int min_two
/-- Between two worlds two blocks are changed alone. -/
structure Kw (Ws W : World) (gf gb : Nat) : Prop where
  s : Ws.heap.size ≤ W.heap.size
  k : ∀ j, j < Ws.heap.size → j ≠ gf → j ≠ gb → W.heap[j]? = Ws.heap[j]?
theorem Kw.refl (W : World) (gf gb : Nat) : Kw W W gf gb := ⟨Nat.le_refl _, fun _ _ _ _ => rfl⟩
theorem Kw.trans {W1 W2 W3 : World} {gf gb : Nat} (h : Kw W1 W2 gf gb) (k : Kw W2 W3 gf gb) : Kw W1 W3 gf gb :=
  ⟨Nat.le_trans h.s k.s, fun j hj h1 h2 => (k.k j (Nat.lt_of_lt_of_le hj h.s) h1 h2).trans (h.k j hj h1 h2)⟩
theorem Kw.below {W1 W2 W3 : World} {gf gb : Nat} (h : Kw W1 W2 gf gb) (hb : Below W2.heap.size W2 W3) : Kw W1 W3 gf gb :=
  ⟨Nat.le_trans h.s hb.size, fun j hj h1 h2 => (hb.block j (Nat.lt_of_lt_of_le hj h.s)).trans (h.k j hj h1 h2)⟩
theorem Kw.set {W1 W2 : World} {gf gb : Nat} (h : Kw W1 W2 gf gb) (p : Addr) (hp : p.block = gf ∨ p.block = gb) (v : Value) : Kw W1 (W2.setCell p v) gf gb :=
  ⟨by simpa using h.s, fun j hj h1 h2 => (Below.heap_setCell W2 p v j (by rcases hp with e | e <;> rw [e] <;> assumption)).trans (h.k j hj h1 h2)⟩
structure Fi (w0 Ws W : World) (gf gb cb : Nat) (B : List Int) (at_ : Nat) : Prop where
  c : W.heap[gf]? = some (.cells #[.slice (some ⟨gb, 0, none⟩) B.length cb, .int .i64 (at_ : Int)] 67 (0, 0))
  r : kB.R 5 W w0.heap.size (fun _ => True) (.slice (some ⟨gb, 0, none⟩) B.length cb) B
  h : w0.heap.size ≤ gf
  K : Below w0.heap.size w0 W
  k : Kw Ws W gf gb
section
variable {w0 Ws W W' : World} {gf gb cb : Nat} {B : List Int} {at_ : Nat}
theorem Fi.ne (h : Fi w0 Ws W gf gb cb B at_) : gf ≠ gb := fun e => by
  obtain ⟨cs, hcs⟩ := Kd.R_typed h.r gb rfl
  have := h.c
  rw [e, hcs] at this
  injection this with this
  injection this with _ this
  exact absurd this (by decide)
theorem Fi.below (h : Fi w0 Ws W gf gb cb B at_) (hb : Below W.heap.size W W') : Fi w0 Ws W' gf gb cb B at_ := ⟨blk_below h.c hb, Kd.R_below h.r hb, h.h, below_step h.K hb, h.k.below hb⟩
end
end Go.Proofs.YtiiolhnpnlmkjaaDoor.Tree
namespace Go.Proofs.YtiiolhnpnlmkjaaDoor.Tree
open Go.RowKit Go.Proofs.YtiiolhnpnlmkjaaDoor.PWkbPrints Go.Proofs.YtiiolhnpnlmkjaaDoorW.PrintWords Go.Proofs.YtiiolhnpnlmkjaaDoorW.PrintLast Go.Proofs.YtiiolhnpnlmkjaaDoorW.PrintMore
theorem byt_app {a b : List Int} (h : Byt a) (k : Byt b) : Byt (a ++ b) := fun x hx => by
  rcases List.mem_append.1 hx with hx | hx
  · exact h x hx
  · exact k x hx
theorem byt_P32 (v : Int) (le : Bool) : Byt (P32 v le) := fun x hx => by
  unfold P32 octet_put_uint32.out at hx
  split at hx <;> simp at hx <;> omega
theorem byt_bit (le : Bool) : Byt (bitB le) := fun x hx => by
  unfold bitB at hx
  cases le <;> simp at hx <;> omega
theorem parsed_cases (b : List Int) (depth most : Int) : (∃ p e, parsedR b depth most = .error (p, e)) ∨ ∃ g os, parsedR b depth most = .ok (g, os) := by
  generalize parsedR b depth most = e
  rcases e with x | r
  · exact .inl ⟨x.1, x.2, rfl⟩
  · exact .inr ⟨r.1, r.2, rfl⟩
def leastN (k : Nat) : Nat := if k = 2 then 16 else if k = 3 then 20 else if k = 4 then 21 else 9
/-- An order, a kind, a count and a rest. -/
def cntB (le : Bool) (k n : Int) (R : List Int) : List Int := (bitB le ++ P32 k le) ++ (P32 n le ++ R)
theorem cntB_len (le : Bool) (k n : Int) (R : List Int) : (cntB le k n R).length = 9 + R.length := by
  unfold cntB
  rw [List.length_append, List.length_append, List.length_append, P32_len, P32_len, show (bitB le).length = 1 from rfl]
  omega
theorem cntB_byt {le : Bool} {k n : Int} {R : List Int} (h : Byt R) : Byt (cntB le k n R) := byt_app (byt_app (byt_bit _) (byt_P32 _ _)) (byt_app (byt_P32 _ _) h)
theorem u32_nat (n : Nat) (h : n < 4294967296) : u32 (n : Int) = n := by unfold u32; rw [IntKind.wrap_u32]; omega
theorem cnt_head (le : Bool) (k : Nat) (n : Int) (R : List Int) (hk : 1 ≤ k ∧ k ≤ 7) : headR (cntB le k n R) 0 = .ok (le, (k : Int)) := by
  have hst : St (cntB le k n R) 0 (cntB le k n R) := st_self _
  have h3 := (show St (cntB le k n R) 0 ((bitB le ++ P32 k le) ++ (P32 n le ++ R)) from hst).app
  refine head_of ?_ (Nat.zero_le _) (by omega)
  rw [u32_nat k (by omega)]
  exact h3.1
theorem cnt_count (le : Bool) (k n least : Nat) (R : List Int) (hn : n < 4294967296) : countR (cntB le k n R) 5 le least = if R.length < n * least then .error (5, 173) else .ok n := by
  have hst : St (cntB le k n R) 0 (cntB le k n R) := st_self _
  have h3 := (show St (cntB le k n R) 0 ((bitB le ++ P32 k le) ++ (P32 n le ++ R)) from hst).app
  have h5 : (bitB le ++ P32 (k : Int) le).length = 5 := by rw [List.length_append, P32_len]; rfl
  rw [h5] at h3
  have h4 := h3.2.app.1
  have hl := cntB_len le k n R
  have h6 : St (cntB le k n R) (0 + 5) (P32 (u32 (n : Int)) le) := by rw [u32_nat n hn]; exact h4
  obtain ⟨-, h7, h8⟩ := count2 (c := cntB le k n R) (k := (cntB le k n R).length) (List.take_length).symm (Nat.le_refl _) (least := least) h6 hn (by omega)
  rw [hl, Nat.zero_add] at h7 h8
  by_cases h : R.length < n * least
  · rw [if_pos h]
    exact h7 (by omega) (by omega)
  · rw [if_neg h]
    exact h8 (by omega)
def finR (n : Nat) : Except (Int × Int) (Ge × Nat × List Bool) → Except (Int × Int) (Ge × List Bool)
  | .error e => .error e
  | .ok r => if r.2.1 < n then .error (r.2.1, 174) else .ok (r.1, r.2.2)
theorem parsed_of {B : List Int} {r : Except (Int × Int) (Ge × Nat × List Bool)} (hl : B.length ≤ 65536) (h : geomR B 256 257 0 1 0 = r) : parsedR B 256 65536 = finR B.length r := by
  unfold parsedR
  rw [if_neg (by omega), show min (256 : Int) 256 = 256 from rfl, h]
  cases r <;> rfl
theorem geom_body {B : List Int} {le : Bool} {k : Nat} (h : headR B 0 = .ok (le, (k : Int))) (depth : Int) (hd : 1 ≤ depth) (fuel : Nat) : geomR B depth (fuel + 1) 0 1 0 = bodyR B depth fuel 5 1 le k := by
  rw [geomR_eq, h]
  dsimp only
  rw [if_neg (by simp), if_neg (by omega)]
theorem rings_up {B : List Int} {le : Bool} : ∀ (m a : Nat) (y1 : List (List Pt)) (y2 : Nat), ringsR B le m a = .ok (y1, y2) → a ≤ y2 := by
  intro m
  induction m with
  | zero => intro a y1 y2 h; rw [ringsR] at h; injection h with h; injection h with h1 h2; omega
  | succ m ih =>
    intro a y1 y2 h
    rw [ringsR] at h
    rcases hr : ringR B a le with x | l
    · rw [hr] at h; cases h
    · rw [hr] at h
      dsimp only at h
      rcases hs : ringsR B le m (a + 4 + 16 * l.length) with x | ⟨z1, z2⟩
      · rw [hs] at h; cases h
      · rw [hs] at h
        injection h with h
        injection h with h1 h2
        have := ih _ _ _ hs
        dsimp only at h2
        omega
theorem cnt_parsed (le : Bool) (k n : Nat) (R : List Int) (hk : 2 ≤ k ∧ k ≤ 7) (hn : n < 4294967296) (hB : Byt R) (hR : R.length ≤ 1500) :
    (R.length < n * leastN k → parsedR (cntB le k n R) 256 65536 = .error (5, 173)) ∧ (n * leastN k ≤ R.length → ∀ p e, parsedR (cntB le k n R) 256 65536 = .error (p, e) → 9 ≤ p) := by
  have hl := cntB_len le k n R
  have hby : Byt (cntB le k n R) := cntB_byt hB
  have hc := cnt_count le k n (leastN k) R hn
  have hg := geom_body (cnt_head le k n R (by omega)) 256 (by omega) 256
  obtain ⟨B, hBd⟩ : ∃ B, B = cntB le k n R := ⟨_, rfl⟩
  rw [← hBd] at hl hby hc hg ⊢
  clear hBd
  have hq := parsed_of (B := B) (by omega) hg
  have hk0 : ((if (k : Int) = 4 then 21 else 9) : Nat) = if k = 4 then 21 else 9 := by split <;> split <;> omega
  constructor
  · intro h
    rw [if_pos h] at hc
    rw [hq]
    suffices hs : bodyR B 256 256 5 1 le k = .error (5, 173) by rw [hs]; rfl
    unfold bodyR
    unfold leastN at hc
    rw [if_neg (by omega)]
    by_cases k2 : k = 2
    · rw [if_pos k2] at hc; rw [if_pos (by omega), hc]
    rw [if_neg k2] at hc
    rw [if_neg (by omega)]
    by_cases k3 : k = 3
    · rw [if_pos k3] at hc; rw [if_pos (by omega), hc]
    rw [if_neg k3] at hc
    rw [if_neg (by omega), hk0, hc]
  · intro h p e hp
    rw [if_neg (by omega)] at hc
    have hgn : Gone (bodyR B 256 256 5 1 le k) 9 B.length := by
      unfold bodyR
      unfold leastN at hc h
      rw [if_neg (by omega)]
      by_cases k2 : k = 2
      · rw [if_pos k2] at hc h
        rw [if_pos (by omega), hc]
        exact (points_gone (by omega)).map _
      rw [if_neg k2] at hc h
      rw [if_neg (by omega)]
      by_cases k3 : k = 3
      · rw [if_pos k3] at hc h
        rw [if_pos (by omega), hc]
        exact (rings_gone hby n (5 + 4) (by omega)).map _
      rw [if_neg k3] at hc h
      rw [if_neg (by omega), hk0, hc]
      refine (parts_gone (fun q => geomR B 256 256 q (1 + 1) k) (fun a ha => geom_gone hby 256 256 a (1 + 1) k ha (.inr (by omega)) (by omega) (by omega)) (fun a ha g hg => ?_) n (5 + 4) (by omega)).map _
      have := back_of hby 256 256 a (1 + 1) k g.1 g.2.1 g.2.2 hg ha (.inr (by omega))
      have h1 := this.u
      have h2 := this.e
      omega
    have hbk : ∀ g, bodyR B 256 256 5 1 le k = .ok g → 9 ≤ g.2.1 := by
      intro g hb
      unfold bodyR at hb
      unfold leastN at hc h
      rw [if_neg (by omega)] at hb
      by_cases k2 : k = 2
      · rw [if_pos k2] at hc h
        rw [if_pos (by omega), hc] at hb
        dsimp only at hb
        rcases hpt : pointsR B (5 + 4) le n with x | y
        · rw [hpt] at hb; cases hb
        · rw [hpt] at hb; injection hb with hb; subst hb; show 9 ≤ 5 + 4 + 16 * n; omega
      rw [if_neg k2] at hc h
      rw [if_neg (by omega)] at hb
      by_cases k3 : k = 3
      · rw [if_pos k3] at hc h
        rw [if_pos (by omega), hc] at hb
        dsimp only at hb
        rcases hpt : ringsR B le n (5 + 4) with x | ⟨y1, y2⟩
        · rw [hpt] at hb; cases hb
        · rw [hpt] at hb; injection hb with hb; subst hb; exact rings_up n (5 + 4) y1 y2 hpt
      rw [if_neg k3] at hc h
      rw [if_neg (by omega), hk0, hc] at hb
      dsimp only at hb
      rcases hpt : partsR (fun q => geomR B 256 256 q (1 + 1) k) n (5 + 4) with x | ⟨y1, y2, y3⟩
      · rw [hpt] at hb; cases hb
      · rw [hpt] at hb; injection hb with hb; subst hb
        have := (parts_back (b := B) (deep := 256) (lvl := 1 + 1) (o := k) (fun q => geomR B 256 256 q (1 + 1) k) (fun a g a' os' hx ha => back_of hby 256 256 a (1 + 1) k g a' os' hx ha (.inr (by omega))) n (5 + 4) y1 y2 y3 hpt (by omega)).2.u
        show 9 ≤ y2
        omega
    rw [hq] at hp
    rcases hbd : bodyR B 256 256 5 1 le k with x | g
    · rw [hbd, finR] at hp
      have := hgn x hbd
      injection hp with hp
      rw [hp] at this
      exact this.1
    · rw [hbd, finR] at hp
      have := hbk g hbd
      split at hp
      · injection hp with hp
        injection hp with hp hp2
        rw [← hp]
        omega
      · cases hp
theorem odd_parsed (y : Int) (R : List Int) (hy : 2 ≤ y ∧ y < 256) (hR : R.length ≤ 60000) : parsedR (y :: R) 256 65536 = .error (0, 170) := by
  have hst : St (y :: R) 0 (y :: R) := st_self _
  have hl : (y :: R).length = R.length + 1 := rfl
  have hn : numB (y :: R) 0 1 false = y := by
    have h1 : St (y :: R) 0 [y] := (show St (y :: R) 0 ([y] ++ R) from hst).app.1
    exact h1.w8 (by omega) (by omega)
  have hh : headR (y :: R) 0 = .error (0, 170) := by
    unfold headR
    rw [hn, if_neg (by rw [hl]; omega), if_pos (by omega)]
    rfl
  rw [parsed_of (B := y :: R) (by rw [hl]; omega) (r := .error (0, 170)) (by rw [geomR_eq, hh])]
  rfl
theorem none_parsed (le : Bool) (n : Nat) (hn : 7 < n ∧ n < 4294967296) : parsedR (bitB le ++ P32 n le) 256 65536 = .error (1, 171) ∧ parsedR ((bitB le ++ P32 n le).take 3) 256 65536 = .error (1, 160) := by
  have h5 : (bitB le ++ P32 (n : Int) le).length = 5 := by rw [List.length_append, P32_len]; rfl
  have hst : St (bitB le ++ P32 n le) 0 (bitB le ++ P32 n le) := st_self _
  obtain ⟨B, hB⟩ : ∃ B, B = bitB le ++ P32 (n : Int) le := ⟨_, rfl⟩
  have h3 := hst.app
  rw [show (bitB le).length = 1 from rfl, ← hB] at h3
  rw [← hB] at h5 ⊢
  clear hst
  have hbit : numB B 0 1 false = if le then 1 else 0 := h3.1.w8 (by split <;> omega) (by split <;> omega)
  have hle : decide (numB B 0 1 false % 256 = 1) = le := by rw [hbit]; cases le <;> rfl
  have hnum : numB B (0 + 1) 4 le = n := by
    rw [h3.2.w32 (by omega) (by omega)]
  constructor
  · have hh : headR B 0 = .error (1, 171) := by
      unfold headR
      rw [hle, hnum, if_neg (by omega), if_neg (by rw [hbit]; cases le <;> decide), if_neg (by omega), if_pos (by omega)]
      rfl
    rw [parsed_of (B := B) (by omega) (r := .error (1, 171)) (by rw [geomR_eq, hh])]
    rfl
  · have ht : (B.take 3).length = 3 := by rw [List.length_take, h5]; rfl
    have hbit3 : numB (B.take 3) 0 1 false = if le then 1 else 0 := (h3.1.cut (k := 3) (by simp [bitB])).w8 (by split <;> omega) (by split <;> omega)
    have hh : headR (B.take 3) 0 = .error (1, 160) := by
      unfold headR
      rw [ht, if_neg (by omega), if_neg (by rw [hbit3]; cases le <;> decide), if_pos (by omega)]
      rfl
    rw [parsed_of (B := B.take 3) (by omega) (r := .error (1, 160)) (by rw [geomR_eq, hh])]
    rfl
theorem nil_parsed : parsedR [] 256 65536 = .error (0, 160) := by
  have hh : headR [] 0 = .error (0, 160) := by
    unfold headR
    rw [if_pos (by simp)]
    rfl
  rw [parsed_of (B := []) (by simp) (r := .error (0, 160)) (by rw [geomR_eq, hh])]
  rfl
def memB (k p : Int) : List Int := [0] ++ P32 k false ++ P32 1 false ++ [1] ++ P32 p true ++ List.replicate 16 0
def memC (k p : Int) : List Int := if p = 1 then memB k p else (memB k p).take 18
def isBad (k p : Int) : Option (Int × Int) := if k = 4 ∧ p ≠ 1 then some (5, 173) else if k ≠ 7 ∧ p ≠ k - 3 then some (10, 172) else none
def memOk (k p : Int) : Bool := match isBad k p, parsedR (memC k p) 2 65536 with
  | some x, .error y => x == y
  | none, .ok r => r.1.f3.length == 1 && (r.1.f3.getD 0 ⟨0, [], [], []⟩).f0 == p
  | _, _ => false
theorem mem_all : ∀ k : Fin 4, ∀ p : Fin 7, memOk ((k.val : Int) + 4) ((p.val : Int) + 1) = true := by decide +kernel
theorem mem_ok (k p : Int) (hk : 4 ≤ k ∧ k ≤ 7) (hp : 1 ≤ p ∧ p ≤ 7) : memOk k p = true := by
  have h := mem_all ⟨(k - 4).toNat, by omega⟩ ⟨(p - 1).toNat, by omega⟩
  have h1 : (((k - 4).toNat : Nat) : Int) + 4 = k := by omega
  have h2 : (((p - 1).toNat : Nat) : Int) + 1 = p := by omega
  dsimp only at h
  rw [h1, h2] at h
  exact h
theorem mem_bad {k p : Int} (hk : 4 ≤ k ∧ k ≤ 7) (hp : 1 ≤ p ∧ p ≤ 7) {x : Int × Int} (h : isBad k p = some x) : parsedR (memC k p) 2 65536 = .error x := by
  have h1 := mem_ok k p hk hp
  unfold memOk at h1
  rw [h] at h1
  generalize parsedR (memC k p) 2 65536 = r at h1 ⊢
  rcases r with y | y
  · have : x = y := by simpa using h1
    rw [this]
  · cases h1
theorem mem_good {k p : Int} (hk : 4 ≤ k ∧ k ≤ 7) (hp : 1 ≤ p ∧ p ≤ 7) (h : isBad k p = none) : ∃ g os q, parsedR (memC k p) 2 65536 = .ok (g, os) ∧ g.f3 = [q] ∧ q.f0 = p := by
  have h1 := mem_ok k p hk hp
  unfold memOk at h1
  rw [h] at h1
  generalize parsedR (memC k p) 2 65536 = r at h1 ⊢
  rcases r with y | ⟨g, os⟩
  · cases h1
  · have h2 : g.f3.length = 1 ∧ (g.f3.getD 0 ⟨0, [], [], []⟩).f0 = p := by simpa using h1
    obtain ⟨h3, h4⟩ := h2
    rcases hq : g.f3 with _ | ⟨q, _ | ⟨q2, l⟩⟩
    · rw [hq] at h3; cases h3
    · rw [hq] at h4; exact ⟨g, os, q, rfl, hq, h4⟩
    · rw [hq] at h3; simp at h3
theorem bad1 {k p : Int} (h : k = 4 ∧ p ≠ 1) : isBad k p = some (5, 173) := by unfold isBad; rw [if_pos h]
theorem bad2 {k p : Int} (h : ¬ (k = 4 ∧ p ≠ 1)) (h2 : k ≠ 7 ∧ p ≠ k - 3) : isBad k p = some (10, 172) := by unfold isBad; rw [if_neg h, if_pos h2]
theorem bad0 {k p : Int} (h : ¬ (k = 4 ∧ p ≠ 1)) (h2 : ¬ (k ≠ 7 ∧ p ≠ k - 3)) : isBad k p = none := by unfold isBad; rw [if_neg h, if_neg h2]
theorem memB_len (k p : Int) : (memB k p).length = 30 := by unfold memB; simp [P32_len]
theorem memC_len (k p : Int) : (memC k p).length = if p = 1 then 30 else 18 := by
  unfold memC
  split
  · exact memB_len k p
  · rw [List.length_take, memB_len]; rfl
end Go.Proofs.YtiiolhnpnlmkjaaDoor.Tree
namespace Go.Proofs.YtiiolhnpnlmkjaaDoor.PCt
open Go.RowKit Go.Proofs.YtiiolhnpnlmkjaaDoorW.PrintWords Go.Proofs.YtiiolhnpnlmkjaaDoorW.PrintLast Go.Proofs.YtiiolhnpnlmkjaaDoorW.PrintMore Go.Proofs.YtiiolhnpnlmkjaaDoor.Tree
attribute [local go_sem] max2_int min2_int max_two min_two max_three min_three max_four min_four

theorem info5 : (Tryd.prog.info? 5).map (fun i => (i.zero, i.size, i.bytes)) = some (some (.int .u8 0), 1, 1) := by kernel_rfl
theorem info82 : (Tryd.prog.info? 82).map (fun i => (i.zero, i.size, i.bytes)) = some (some (.agg #[(.int .u64 0), (.int .u64 0)]), 2, 16) := by kernel_rfl
def plumblaw17_cut.l0 : Nat → List Int → List Int → Int → Option (List Int)
  | 0, _, _, _ => none
  | k + 1, x0, x3, x4 => if x4 < (x0.length : Int) then (if x4 < 1500 then (if 0 ≤ x4 then (if x3.length < 140737488355328 then (plumblaw17_cut.l0 k x0 (x3 ++ [rd x0 x4]) (wrap64 (x4 + 1))) else (none)) else (none)) else (some x3)) else (some x3)
def plumblaw17_cut.f (k : Nat) (l0 : List Int) : Option (List Int) := plumblaw17_cut.l0 k l0 ([] : List Int) 0
theorem plumblaw17_cut.mono_l : ∀ k, (∀ y0 y1 y2, LeO (plumblaw17_cut.l0 k y0 y1 y2) (plumblaw17_cut.l0 (k + 1) y0 y1 y2))
  | 0 => fun _ _ _ r h => by simp [plumblaw17_cut.l0] at h
  | k + 1 => by
    have ih0 := plumblaw17_cut.mono_l k
    · intro y0 y1 y2
      unfold plumblaw17_cut.l0
      repeat' first
      | (with_reducible exact ih0 _ _ _)
      | (with_reducible exact LeO.refl _)
      | (with_reducible exact LeO.none _)
      | (with_reducible refine LeO.ite ?_ ?_)
      | (with_reducible refine LeO.bind ?_ (fun _ => ?_))
      | exact ih0 _ _ _
      | exact LeO.none _
      | refine LeO.ite ?_ ?_
      | refine LeO.bind ?_ (fun _ => ?_)
theorem plumblaw17_cut.mono : ∀ a0 k, LeO (plumblaw17_cut.f k a0) (plumblaw17_cut.f (k + 1) a0) := by
  intro a0 k
  have ih0 := plumblaw17_cut.mono_l k
  unfold plumblaw17_cut.f
  repeat' first
      | (with_reducible exact ih0 _ _ _)
      | (with_reducible exact LeO.refl _)
      | (with_reducible exact LeO.none _)
      | (with_reducible refine LeO.ite ?_ ?_)
      | (with_reducible refine LeO.bind ?_ (fun _ => ?_))
      | exact ih0 _ _ _
      | exact LeO.none _
      | refine LeO.ite ?_ ?_
      | refine LeO.bind ?_ (fun _ => ?_)
set_option maxHeartbeats 8000000 in
set_option maxRecDepth 100000 in
theorem plumblaw17_cut.calls (k : Nat) (A0 : Option Addr) (c0 : Nat) (l0 : List Int) (r : List Int) (w : World) (hr0 : Kd.C (Kd.int .u8) w A0 l0.length l0) (hc0 : l0.length ≤ c0) (h : plumblaw17_cut.f k l0 = some r) :
    Calls Tryd.prog 11 #[.slice A0 l0.length c0] w fun e w' => ∃ v0_ : Value, e = .returned (v0_) ∧ Kd.R (Kd.int .u8) 5 w' w.heap.size (fun _ => True) v0_ r ∧ Below w.heap.size w w' := by
  have HR0 := Aside0.mk hr0
  have HC0 := Aside0.mk hc0
  clear hr0 hc0
  have HB := Aside0.mk (Below.refl w.heap.size w)
  have H : (plumblaw17_cut.l0 k l0 ([] : List Int) 0) = some r := h
  clear h
  have H' := Aside0.mk H
  clear H
  go_enter Tryd.func11, Tryd.ntmps11
  go_wp2
  go_loopg [3, 4] k (fun kq v3 v4 w' => ∃ (x3_1 : List Int) (x4_1 : Int), v4 = .int .i64 x4_1 ∧ Aside0 (plumblaw17_cut.l0 kq l0 x3_1 x4_1 = some r) ∧ Aside0 (kq ≤ k) ∧ Aside0 (Kd.R (Kd.int .u8) 5 w' w.heap.size (fun _ => True) v3 x3_1) ∧ Aside0 (Below w.heap.size w w'))
  case atStart => exact ⟨(([] : List Int)), (0), (by first | rfl | (simp; done) | (simp [*]; done)), H', ⟨Nat.le_refl _⟩, ⟨by first | exact Kd.R_nil _ _ _ _ _ | exact Kd.N_nil _ _ _ _ _ | exact Kd.V_nil _ _ _ _ _ | exact Kd.Q_nil _ _ _ _ _ | exact Kd.S_nil _ _ _ _ _⟩, ⟨by repeat (first | (with_reducible first | exact HB.out | apply below_alloc | apply pw_below_drewN | apply below_drew1) | exact HB.out)⟩⟩
  case round =>
    clear H'
    try clear c1
    obtain ⟨x3_1, x4_1, rfl, HA, HK1, HO_3, HB⟩ := hrel
    cases gk with
    | zero => exact absurd HA.out (by simp [plumblaw17_cut.l0])
    | succ k1 =>
      have H := HA.out
      clear HA
      simp only [plumblaw17_cut.l0] at H
      by_cases c2 : x4_1 < (l0.length : Int)
      · rw [if_pos c2] at H
        have c2b0 : decide (x4_1 < (l0.length : Int)) = true := decide_eq_true c2
        clear c2
        by_cases c3 : x4_1 < 1500
        · rw [if_pos c3] at H
          have c3b0 : decide (x4_1 < 1500) = true := decide_eq_true c3
          clear c3
          by_cases c4 : 0 ≤ x4_1
          · rw [if_pos c4] at H
            have c4b0 : decide (0 ≤ x4_1) = true := decide_eq_true c4
            clear c4
            by_cases c5 : x3_1.length < 140737488355328
            · rw [if_pos c5] at H
              have LMc5 := Aside0.mk c5
              clear c5
              obtain ⟨y102, hy102⟩ : ∃ y_ : List Int, y_ = (x3_1 ++ [rd l0 x4_1]) := ⟨_, rfl⟩
              replace H : (plumblaw17_cut.l0 k1 l0 y102 (wrap64 (x4_1 + 1))) = some r := by first | (rw [hy102]; with_reducible exact H) | (have H2_ := (Option.bind_some _ _).symm.trans H; rw [hy102]; with_reducible exact H2_) | (have H2_ := (Option.bind_some _ _).symm.trans H; with_reducible exact H2_) | with_reducible exact H | (rw [hy102]; exact H) | exact H
              have Ny102 := Aside0.mk hy102
              clear hy102
              have H' := Aside0.mk H
              clear H
              have p101 : 0 ≤ (x4_1 : Int) := of_decide_eq_true (by first | (with_reducible assumption) | assumption)
              have q101 : x4_1 < (l0.length : Int) := of_decide_eq_true (by first | (with_reducible assumption) | assumption)
              obtain ⟨ad101, e101, hx101_0⟩ := Kd.at_int HR0.out x4_1 p101 q101
              cases e101
              replace hx101_0 := (HB.out.cell (World.block_lt_of_cell? w _ hx101_0)).trans hx101_0
              replace p101 := eq_true p101
              replace q101 := eq_true q101
              go_wp2_with (first | ((with_reducible refine gate_builtin (b := .append) (xs := #[.tmp 15, .tmp 20]) rfl ?_); at_builtin; refine Kd.R_append (Kd.int .u8) (w0 := w) w.heap.size rfl (.tmp 15) (.tmp 20) 22 5 (.int .u8 0) 1 rfl Tryd.underlying22 info5 rfl (by decide) (by omega) u3 x3_1 (rd l0 x4_1) [.int .u8 (rd l0 x4_1)] (fun _ => True) (fun _ => False) rfl rfl ?aP (fun _ hk => hk.elim) ?aF ?aO ?aB ?aS ?aL ?_; (case aP => exact rfl); (case aB => exact (by repeat (first | (with_reducible first | exact HB.out | apply below_alloc | apply pw_below_drewN | apply below_drew1) | exact HB.out))); (case aF => exact (fun _ _ => trivial)); (case aO => exact (by (with_reducible repeat (first | apply Kd.R_alloc | apply Kd.R_drewN | apply Kd.R_drew)); exact HO_3.out)); (case aS => exact (below_size (by repeat (first | (with_reducible first | exact HB.out | apply below_alloc | apply pw_below_drewN | apply below_drew1) | exact HB.out)))); (case aL => have := LMc5.out; omega); intro v103 w6 ho hb hg hat; rw [← Ny102.out] at ho; have n0_ := Aside0.mk (hb); have n1_ := Aside0.mk (ho); clear HB; clear HO_3; have HB := n0_; have HO104 := n1_; clear n0_ n1_; clear ho hb hg hat))
              go_roundg k1
              case measure => have := HK1.out; omega
              case rel => exact ⟨(y102), (wrap64 (x4_1 + 1)), (by first | rfl | (simp; done) | (simp [*]; done)), H', ⟨by have := HK1.out; omega⟩, ⟨by (with_reducible repeat (first | apply Kd.R_alloc | apply Kd.R_drewN | apply Kd.R_drew)); exact HO104.out⟩, ⟨by repeat (first | (with_reducible first | exact HB.out | apply below_alloc | apply pw_below_drewN | apply below_drew1) | exact HB.out)⟩⟩
            · rw [if_neg c5] at H
              exact absurd H (by simp)
          · rw [if_neg c4] at H
            exact absurd H (by simp)
        · rw [if_neg c3] at H
          have c3b0 : decide (x4_1 < 1500) = false := decide_eq_false c3
          clear c3
          obtain rfl := Option.some.inj H
          go_wp2
          go_ret
          exact ⟨_, by first | rfl | (simp [errW_none, errW_some] <;> rfl) | (simp [*, errW_none, errW_some] <;> rfl), by (with_reducible repeat (first | apply Kd.R_alloc | apply Kd.R_drewN | apply Kd.R_drew)); exact HO_3.out, by repeat (first | (with_reducible first | exact HB.out | apply below_alloc | apply pw_below_drewN | apply below_drew1) | exact HB.out)⟩
      · rw [if_neg c2] at H
        have c2b0 : decide (x4_1 < (l0.length : Int)) = false := decide_eq_false c2
        clear c2
        obtain rfl := Option.some.inj H
        go_wp2
        go_ret
        exact ⟨_, by first | rfl | (simp [errW_none, errW_some] <;> rfl) | (simp [*, errW_none, errW_some] <;> rfl), by (with_reducible repeat (first | apply Kd.R_alloc | apply Kd.R_drewN | apply Kd.R_drew)); exact HO_3.out, by repeat (first | (with_reducible first | exact HB.out | apply below_alloc | apply pw_below_drewN | apply below_drew1) | exact HB.out)⟩

-- NOT PRINTED: function 56 (api_Wrap)

-- NOT PRINTED: function 58 (octet_NewReader)

-- NOT PRINTED: function 88 (wkb_parser_need)


end Go.Proofs.YtiiolhnpnlmkjaaDoor.PCt
namespace Go.Proofs.YtiiolhnpnlmkjaaDoor.Tree
open Go.RowKit Go.Proofs.YtiiolhnpnlmkjaaDoor.PWkbPrints Go.Proofs.YtiiolhnpnlmkjaaDoorW.PrintWords Go.Proofs.YtiiolhnpnlmkjaaDoorW.PrintLast Go.Proofs.YtiiolhnpnlmkjaaDoorW.PrintMore Go.Proofs.YtiiolhnpnlmkjaaDoor.PCt
theorem cut_l (l : List Int) : ∀ (d k i : Nat), i + d = min l.length 1500 → d < k → plumblaw17_cut.l0 k l (l.take i) (i : Int) = some (l.take 1500) := by
  intro d
  induction d with
  | zero =>
    intro k i hi hk
    obtain ⟨k, rfl⟩ : ∃ m, k = m + 1 := ⟨k - 1, by omega⟩
    rw [plumblaw17_cut.l0]
    by_cases c1 : (i : Int) < (l.length : Int)
    · rw [if_pos c1, if_neg (by omega), show i = 1500 from by omega]
    · rw [if_neg c1, List.take_of_length_le (by omega), List.take_of_length_le (by omega)]
  | succ d ih =>
    intro k i hi hk
    obtain ⟨k, rfl⟩ : ∃ m, k = m + 1 := ⟨k - 1, by omega⟩
    have e3 : wrap64 ((i : Int) + 1) = ((i + 1 : Nat) : Int) := by unfold wrap64; omega
    have hl : i < l.length := by omega
    have e4 : l.take i ++ [rd l (i : Int)] = l.take (i + 1) := by
      rw [rd, Int.toNat_natCast, List.getD_eq_getElem?_getD, List.getElem?_eq_getElem hl, Option.getD_some, List.take_add_one, List.getElem?_eq_getElem hl]
      rfl
    rw [plumblaw17_cut.l0, if_pos (by omega), if_pos (by omega), if_pos (by omega), if_pos (by rw [List.length_take]; omega), e3, e4]
    exact ih k (i + 1) (by omega) (by omega)
/-- The bytes that a law reads. -/
def cutB (l : List Int) : List Int := l.take 1500
theorem cutB_len (l : List Int) : (cutB l).length ≤ 1500 := by unfold cutB; rw [List.length_take]; omega
theorem cut_calls (A : Option Addr) (c : Nat) (l : List Int) (w : World) (hC : kB.C w A l.length l) (hc : l.length ≤ c) :
    Calls Tryd.prog 11 #[.slice A l.length c] w fun e w' => ∃ u, e = .returned u ∧ kB.R 5 w' w.heap.size (fun _ => True) u (cutB l) ∧ Below w.heap.size w w' :=
  plumblaw17_cut.calls 1502 A c l (cutB l) w hC hc (by
    have h := cut_l l (min l.length 1500) 1502 0 (by omega) (by omega)
    rw [List.take_zero] at h
    exact h)
end Go.Proofs.YtiiolhnpnlmkjaaDoor.Tree
namespace Go.Proofs.YtiiolhnpnlmkjaaDoor.Tree
open Go.RowKit Go.Proofs.YtiiolhnpnlmkjaaDoorW.PrintWords Go.Proofs.YtiiolhnpnlmkjaaDoorW.PrintLast Go.Proofs.YtiiolhnpnlmkjaaDoorW.PrintMore
theorem ge_ext {a b : Ge} (h0 : a.f0 = b.f0) (h1 : a.f1 = b.f1) (h2 : a.f2 = b.f2) (h3 : a.f3 = b.f3) : a = b := by
  cases a; cases b
  dsimp only at h0 h1 h2 h3
  subst h0 h1 h2 h3
  rfl
open Classical in
/-- The same tree? -/
noncomputable def eqG (a b : Ge) : Bool := if a = b then true else false
theorem eqG_true {a b : Ge} (h : a = b) : eqG a b = true := by unfold eqG; exact if_pos h
theorem eqG_false {a b : Ge} (h : a ≠ b) : eqG a b = false := by unfold eqG; exact if_neg h
theorem eqG_iff (a b : Ge) : eqG a b = true ↔ a = b := by
  refine ⟨fun h => ?_, eqG_true⟩
  by_cases e : a = b
  · exact e
  · rw [eqG_false e] at h
    cases h
deriving instance DecidableEq for Pt
def eqL (a b : List Pt) : Bool := decide (a = b)
theorem eqL_true {a b : List Pt} (h : a = b) : eqL a b = true := decide_eq_true h
theorem eqL_false {a b : List Pt} (h : a ≠ b) : eqL a b = false := decide_eq_false h
theorem eqL_iff (a b : List Pt) : eqL a b = true ↔ a = b := decide_eq_true_iff
set_option maxRecDepth 100000 in
set_option maxHeartbeats 4000000 in
theorem sameLine_calls (A B : Option Addr) (c d : Nat) (a b : List Pt) (w : World) (ha : Kd.C kPt w A a.length a) (hb : Kd.C kPt w B b.length b) (hl : a.length ≤ 1073741824) :
    Calls Tryd.prog 50 #[.slice A a.length c, .slice B b.length d] w fun e w' => e = .returned (.bool (eqL a b)) ∧ ∃ n, w' = w.drewN n := by
  have hu := Tryd.underlying82
  have HA := Aside0.mk ha
  have HB := Aside0.mk hb
  clear ha hb
  by_cases hn : a.length = b.length
  · have q1 : ((a.length : Int) == (b.length : Int)) = true := beq_iff_eq.mpr (by omega)
    have q2 : ((a.length : Int) != (b.length : Int)) = false := bne_eq_false_iff_eq.mpr (by omega)
    have HN := Aside0.mk hn
    clear hn
    go_enter Tryd.func50, Tryd.ntmps50
    go_wp2_with fail
    go_loopg [13] a.length (fun kq i wr => ∃ k : Nat, k + kq = a.length ∧ i = .int .i64 (k : Int) ∧ Aside0 (a.take k = b.take k) ∧ ∃ m, wr = w.drewN m)
    case atStart => exact ⟨0, by omega, rfl, ⟨rfl⟩, 0, rfl⟩
    case round =>
      obtain ⟨k, hk, rfl, HT, m, rfl⟩ := hrel
      cases gk with
      | zero =>
        have hlt : ¬ ((k : Int) < (a.length : Int)) := by omega
        obtain rfl : k = a.length := by omega
        go_wp2_with fail
        go_ret
        refine ⟨ret_b ?_, m, rfl⟩
        have h := HT.out
        rw [List.take_length, HN.out, List.take_length] at h
        rw [eqL_true h]
      | succ kq =>
        have hlt : (k : Int) < (a.length : Int) := by omega
        have hlt1 : k < a.length := by omega
        have hltb' : k < b.length := by have := HN.out; omega
        have hltb : (k : Int) < (b.length : Int) := by omega
        obtain ⟨x1, e1, p0, p1⟩ := at_Pt HA.out (k : Int) (by omega) (by omega)
        obtain ⟨x2, e2, r0, r1⟩ := at_Pt HB.out (k : Int) (by omega) (by omega)
        subst e1 e2
        rw [rd_Pt_at _ _ hlt1, Int.toNat_natCast] at p0 p1
        rw [rd_Pt_at _ _ hltb', Int.toNat_natCast] at r0 r1
        obtain ⟨u, hu1⟩ : ∃ u, u = a[k] := ⟨_, rfl⟩
        obtain ⟨v, hv1⟩ : ∃ v, v = b[k] := ⟨_, rfl⟩
        rw [← hu1] at p0 p1
        rw [← hv1] at r0 r1
        have HU := Aside0.mk hu1
        have HV := Aside0.mk hv1
        clear hu1 hv1
        obtain ⟨u0, u1⟩ := u
        obtain ⟨v0, v1⟩ := v
        dsimp only at p0 p1 r0 r1
        by_cases h0 : u0 = v0
        · have s0 : (u0 == v0) = true := beq_iff_eq.mpr h0
          by_cases h1 : u1 = v1
          · have s1 : (u1 == v1) = true := beq_iff_eq.mpr h1
            have HE := Aside0.mk (show a.take (k + 1) = b.take (k + 1) by
              rw [List.take_succ_eq_append_getElem hlt1, List.take_succ_eq_append_getElem hltb', HT.out, ← HU.out, ← HV.out, h0, h1])
            clear h0 h1
            go_wp2_with fail
            go_quiet (fail)
            go_wp2_with fail
            go_roundg kq
            case measure => omega
            case rel => exact ⟨k + 1, by omega, by go_num, HE, _, rfl⟩
          · have s1 : (u1 == v1) = false := beq_eq_false_iff_ne.mpr h1
            have HE := Aside0.mk (show a ≠ b by rintro rfl; have := HU.out.trans HV.out.symm; injection this; contradiction)
            clear h0 h1
            go_wp2_with fail
            go_quiet (fail)
            go_wp2_with fail
            go_ret
            exact ⟨ret_b (eqL_false HE.out).symm, _, World.drewN_drewN _ _ _⟩
        · have s0 : (u0 == v0) = false := beq_eq_false_iff_ne.mpr h0
          have HE := Aside0.mk (show a ≠ b by rintro rfl; have := HU.out.trans HV.out.symm; injection this; contradiction)
          clear h0
          go_wp2_with fail
          go_quiet (fail)
          go_wp2_with fail
          go_ret
          exact ⟨ret_b (eqL_false HE.out).symm, _, World.drewN_drewN _ _ _⟩
  · have q1 : ((a.length : Int) == (b.length : Int)) = false := beq_eq_false_iff_ne.mpr (by omega)
    have q2 : ((a.length : Int) != (b.length : Int)) = true := bne_iff_ne.mpr (by omega)
    have HE := Aside0.mk (show a ≠ b by rintro rfl; exact hn rfl)
    clear hn
    go_enter Tryd.func50, Tryd.ntmps50
    go_wp2_with fail
    go_ret
    exact ⟨ret_b (eqL_false HE.out).symm, 0, rfl⟩
set_option maxRecDepth 100000 in
set_option maxHeartbeats 8000000 in
theorem equal_calls (n : Nat) : ∀ (v u : Value) (a b : Ge) (w : World), IsG w v a → IsG w u b → a.bulk ≤ n → n ≤ 1073741824 → b.bulk ≤ 1073741824 →
    Calls Tryd.prog 33 #[v, u] w fun e w' => e = .returned (.bool (eqG a b)) ∧ Below w.heap.size w w' := by
  induction n with
  | zero => intro v u a b w _ _ h; have := a.bulk_eq; omega
  | succ n ih =>
  rintro v u a b w ⟨A1, c1, A2, c2, A3, c3, rfl, l1, h1, l2, h2, l3, h3⟩ ⟨D1, d1, D2, d2, D3, d3, rfl, m1, k1, m2, k2, m3, k3⟩ hbk hn hbb
  have hbq := a.bulk_eq
  have hbq' := b.bulk_eq
  have hb1 : a.f1.length ≤ 1073741824 := by omega
  have hb2 : a.f2.length ≤ 1073741824 := by omega
  have hb3 : a.f3.length ≤ 1073741824 := by have := bulks_len a.f3; omega
  have hd1 : b.f1.length ≤ 1073741824 := by omega
  have hd2 : b.f2.length ≤ 1073741824 := by omega
  have hd3 : b.f3.length ≤ 1073741824 := by have := bulks_len b.f3; omega
  have H1 := Aside0.mk h1
  have H2 := Aside0.mk h2
  have H3 := Aside0.mk h3
  have K1 := Aside0.mk k1
  have K2 := Aside0.mk k2
  have K3 := Aside0.mk k3
  have U := Aside0.mk (upTo_le a.f2)
  have HBQ := Aside0.mk (And.intro hbk (And.intro hbq (And.intro hbb hbq')))
  have IH := Aside0.mk ih
  have HN := Aside0.mk hn
  clear h1 h2 h3 k1 k2 k3 ih hbk hbq hbb hbq' l1 l2 l3 m1 m2 m3 hn
  have hmx : Tryd.prog.follows .mixedOrders = true := by kernel_rfl
  have hun := Tryd.underlying28
  go_enter Tryd.func33, Tryd.ntmps33
  have HB0 := Aside0.mk (Below.refl w.heap.size w)
  by_cases q0 : a.f0 = b.f0
  · by_cases q1 : a.f1 = b.f1
    · by_cases q2 : a.f2.length = b.f2.length
      · by_cases q3 : a.f3.length = b.f3.length
        · have Q0 := Aside0.mk q0
          have Q1 := Aside0.mk q1
          have Q2 := Aside0.mk q2
          have Q3 := Aside0.mk q3
          have t0 : (a.f0 == b.f0) = true := beq_iff_eq.mpr q0
          have t0' : (a.f0 != b.f0) = false := bne_eq_false_iff_eq.mpr q0
          have t2 : ((a.f2.length : Int) == (b.f2.length : Int)) = true := beq_iff_eq.mpr (by omega)
          have t2' : ((a.f2.length : Int) != (b.f2.length : Int)) = false := bne_eq_false_iff_eq.mpr (by omega)
          have t3 : ((a.f3.length : Int) == (b.f3.length : Int)) = true := beq_iff_eq.mpr (by omega)
          have t3' : ((a.f3.length : Int) != (b.f3.length : Int)) = false := bne_eq_false_iff_eq.mpr (by omega)
          clear q0 q1 q2 q3
          go_wp2_with fail
          obtain ⟨ga, hga⟩ : ∃ x, x = w.heap.size := ⟨_, rfl⟩
          obtain ⟨gb, hgb⟩ : ∃ x, x = w.heap.size + 1 := ⟨_, rfl⟩
          obtain ⟨W0, hW0⟩ : ∃ x, x = ((w.alloc (.cells #[.int .i64 a.f0, .slice A1 a.f1.length c1, .slice A2 a.f2.length c2, .slice A3 a.f3.length c3] 28)).alloc (.cells #[.int .i64 b.f0, .slice D1 b.f1.length d1, .slice D2 b.f2.length d2, .slice D3 b.f3.length d3] 28)) := ⟨_, rfl⟩
          rw [← hW0, ← hgb, ← hga]
          have BA := Aside0.mk (show W0.heap[ga]? = some (.cells #[.int .i64 a.f0, .slice A1 a.f1.length c1, .slice A2 a.f2.length c2, .slice A3 a.f3.length c3] 28 (0, 0)) by rw [hW0, hga]; exact blk_alloc (World.alloc_heap_new _ _) _)
          have BB := Aside0.mk (show W0.heap[gb]? = some (.cells #[.int .i64 b.f0, .slice D1 b.f1.length d1, .slice D2 b.f2.length d2, .slice D3 b.f3.length d3] 28 (0, 0)) by
            rw [hW0, hgb]
            have h := World.alloc_heap_new (w.alloc (.cells #[.int .i64 a.f0, .slice A1 a.f1.length c1, .slice A2 a.f2.length c2, .slice A3 a.f3.length c3] 28)) (.cells #[.int .i64 b.f0, .slice D1 b.f1.length d1, .slice D2 b.f2.length d2, .slice D3 b.f3.length d3] 28)
            simpa using h)
          have HB := Aside0.mk (show Below w.heap.size w W0 by rw [hW0]; exact below_alloc (below_alloc (Below.refl _ _) _) _)
          have HGA := Aside0.mk hga
          clear hW0 hga hgb HB0
          have z0 : W0.cell? ⟨ga, 0, none⟩ = some (.int .i64 a.f0) := (blk_cell BA.out 0).trans rfl
          have z1 : W0.cell? ⟨ga, 1, none⟩ = some (.slice A1 a.f1.length c1) := (blk_cell BA.out 1).trans rfl
          have z2 : W0.cell? ⟨ga, 2, none⟩ = some (.slice A2 a.f2.length c2) := (blk_cell BA.out 2).trans rfl
          have z3 : W0.cell? ⟨ga, 3, none⟩ = some (.slice A3 a.f3.length c3) := (blk_cell BA.out 3).trans rfl
          have y0 : W0.cell? ⟨gb, 0, none⟩ = some (.int .i64 b.f0) := (blk_cell BB.out 0).trans rfl
          have y1 : W0.cell? ⟨gb, 1, none⟩ = some (.slice D1 b.f1.length d1) := (blk_cell BB.out 1).trans rfl
          have y2 : W0.cell? ⟨gb, 2, none⟩ = some (.slice D2 b.f2.length d2) := (blk_cell BB.out 2).trans rfl
          have y3 : W0.cell? ⟨gb, 3, none⟩ = some (.slice D3 b.f3.length d3) := (blk_cell BB.out 3).trans rfl
          refine (sameLine_calls A1 D1 c1 d1 a.f1 b.f1 W0 (Kd.C_below H1.out HB.out) (Kd.C_below K1.out HB.out) hb1).mono ?_
          rintro e w' ⟨rfl, nd, rfl⟩
          rw [eqL_true Q1.out]
          have YQ := Aside0.mk (And.intro y2 y3)
          have HL2 := Aside0.mk (show (a.f2.length : Int) = (b.f2.length : Int) by have := Q2.out; omega)
          go_wp2_with fail
          go_loopg [41] a.f2.length (fun kq i wr => ∃ j : Nat, j + kq = a.f2.length ∧ i = .int .i64 (j : Int) ∧ Aside0 (a.f2.take j = b.f2.take j) ∧ ∃ m, wr = W0.drewN m)
          case atStart => exact ⟨0, by omega, rfl, ⟨rfl⟩, nd, rfl⟩
          case round =>
            obtain ⟨j, hj, rfl, HT, m, rfl⟩ := hrel
            cases gk with
            | zero =>
              have hlt : ¬ ((j : Int) < (a.f2.length : Int)) := by omega
              obtain rfl : j = a.f2.length := by omega
              have HF2 := Aside0.mk (show a.f2 = b.f2 by
                have h := HT.out
                rw [List.take_length, Q2.out, List.take_length] at h
                exact h)
              clear HT hj
              go_wp2_with fail
              have Z3 := Aside0.mk z3
              have Y3 := Aside0.mk y3
              go_loopg [60] a.f3.length (fun kq i wr => ∃ j : Nat, j + kq = a.f3.length ∧ i = .int .i64 (j : Int) ∧ Aside0 (a.f3.take j = b.f3.take j) ∧ Aside0 (Below W0.heap.size W0 wr))
              case atStart => exact ⟨0, by omega, rfl, ⟨rfl⟩, ⟨by repeat (first | exact Below.refl _ _ | apply pw_below_drewN)⟩⟩
              case round =>
                obtain ⟨j, hj, rfl, HT, HW⟩ := hrel
                have z3' := cell_below HW.out Z3.out
                have y3' := cell_below HW.out Y3.out
                cases gk with
                | zero =>
                  have hlt : ¬ ((j : Int) < (a.f3.length : Int)) := by omega
                  obtain rfl : j = a.f3.length := by omega
                  have HE := Aside0.mk (show a = b by
                    have h := HT.out
                    rw [List.take_length, Q3.out, List.take_length] at h
                    exact ge_ext Q0.out Q1.out HF2.out h)
                  go_wp2_with fail
                  go_ret
                  exact ⟨ret_b (eqG_true HE.out).symm, below_step HB.out HW.out⟩
                | succ kq =>
                  have hlt : j < a.f3.length := by omega
                  have hltb : j < b.f3.length := by have := Q3.out; omega
                  obtain ⟨q3, B1, b1, B2, b2, B3, b3, ea, u0, u1, u2, u3, n1, o1, n2, o2, n3, o3⟩ := at_Ge H3.out j (by omega) (by omega)
                  obtain ⟨a3, F1, f1, F2, f2, F3, f3, eb, t0, t1, t2, t3, m1, p1, m2, p2, m3, p3⟩ := at_Ge K3.out j (by omega) (by omega)
                  subst ea eb
                  rw [rd_Ge_at _ _ hlt] at u0 u1 u2 u3 o1 o2 o3 n1 n2 n3
                  rw [rd_Ge_at _ _ hltb] at t0 t1 t2 t3 p1 p2 p3 m1 m2 m3
                  rw [Int.toNat_natCast] at u0 u1 u2 u3 t0 t1 t2 t3
                  obtain ⟨ka, hka⟩ : ∃ k, k = a.f3[j] := ⟨_, rfl⟩
                  obtain ⟨kb, hkb⟩ : ∃ k, k = b.f3[j] := ⟨_, rfl⟩
                  rw [← hka] at u0 u1 u2 u3 o1 o2 o3 n1 n2 n3
                  rw [← hkb] at t0 t1 t2 t3 p1 p2 p3 m1 m2 m3
                  have HIA := Aside0.mk (show IsG w (.agg #[.int .i64 ka.f0, .slice B1 ka.f1.length b1, .slice B2 ka.f2.length b2, .slice B3 ka.f3.length b3]) ka from ⟨B1, b1, B2, b2, B3, b3, rfl, n1, o1, n2, o2, n3, o3⟩)
                  have HIB := Aside0.mk (show IsG w (.agg #[.int .i64 kb.f0, .slice F1 kb.f1.length f1, .slice F2 kb.f2.length f2, .slice F3 kb.f3.length f3]) kb from ⟨F1, f1, F2, f2, F3, f3, rfl, m1, p1, m2, p2, m3, p3⟩)
                  have U0 := Aside0.mk (cell_below HB.out u0)
                  have U1 := Aside0.mk (cell_below HB.out u1)
                  have U2 := Aside0.mk (cell_below HB.out u2)
                  have U3 := Aside0.mk (cell_below HB.out u3)
                  have V0 := Aside0.mk (cell_below HB.out t0)
                  have V1 := Aside0.mk (cell_below HB.out t1)
                  have V2 := Aside0.mk (cell_below HB.out t2)
                  have V3 := Aside0.mk (cell_below HB.out t3)
                  have hpa : ka.bulk ≤ n := by rw [hka]; have := bulks_mem (List.getElem_mem hlt); have := HBQ.out.1; have := HBQ.out.2.1; omega
                  have hpb : kb.bulk ≤ 1073741824 := by rw [hkb]; have := bulks_mem (List.getElem_mem hltb); have := HBQ.out.2.2.1; have := HBQ.out.2.2.2; omega
                  have HTa := Aside0.mk (show a.f3.take (j + 1) = a.f3.take j ++ [ka] by rw [List.take_succ_eq_append_getElem hlt, hka])
                  have HTb := Aside0.mk (show b.f3.take (j + 1) = b.f3.take j ++ [kb] by rw [List.take_succ_eq_append_getElem hltb, hkb])
                  have HPA := Aside0.mk (And.intro hpa hpb)
                  clear u0 u1 u2 u3 t0 t1 t2 t3 n1 o1 n2 o2 n3 o3 m1 p1 m2 p2 m3 p3 hka hkb hpa hpb
                  have i0 : (0 : Int) ≤ (j : Int) := by omega
                  have i1 : (j : Int) < (a.f3.length : Int) := by omega
                  have i2 : (j : Int) < (b.f3.length : Int) := by have := Q3.out; omega
                  go_wp2_with fail
                  refine start_ (n := 12) (S := fun w' => w'.cell? ⟨ga, 3, none⟩ = some (.slice (some q3) a.f3.length c3) ∧ w'.cell? ⟨gb, 3, none⟩ = some (.slice (some a3) b.f3.length d3) ∧ w'.cell? (q3.add (j * 4)) = some (.int .i64 ka.f0) ∧ w'.cell? ⟨(q3.add (j * 4)).block, (q3.add (j * 4)).off + 1, none⟩ = some (.slice B1 ka.f1.length b1) ∧ w'.cell? ⟨(q3.add (j * 4)).block, (q3.add (j * 4)).off + 2, none⟩ = some (.slice B2 ka.f2.length b2) ∧ w'.cell? ⟨(q3.add (j * 4)).block, (q3.add (j * 4)).off + 3, none⟩ = some (.slice B3 ka.f3.length b3) ∧ w'.cell? (a3.add (j * 4)) = some (.int .i64 kb.f0) ∧ w'.cell? ⟨(a3.add (j * 4)).block, (a3.add (j * 4)).off + 1, none⟩ = some (.slice F1 kb.f1.length f1) ∧ w'.cell? ⟨(a3.add (j * 4)).block, (a3.add (j * 4)).off + 2, none⟩ = some (.slice F2 kb.f2.length f2) ∧ w'.cell? ⟨(a3.add (j * 4)).block, (a3.add (j * 4)).off + 3, none⟩ = some (.slice F3 kb.f3.length f3) ∧ True) (ds := []) #[false, false, false, false, false, false, false, false, false, false, false, false] hmx rfl rfl ⟨cell_below (below_drew HW.out) Z3.out, cell_below (below_drew HW.out) Y3.out, cell_below (below_drew HW.out) U0.out, cell_below (below_drew HW.out) U1.out, cell_below (below_drew HW.out) U2.out, cell_below (below_drew HW.out) U3.out, cell_below (below_drew HW.out) V0.out, cell_below (below_drew HW.out) V1.out, cell_below (below_drew HW.out) V2.out, cell_below (below_drew HW.out) V3.out, trivial⟩ (fun hHeld => ?_)
                  have HWd := Aside0.mk (below_drew HW.out)
                  clear z3' y3'
                  generalize wr.drew = Wd at HWd hHeld ⊢
                  (refine pure_ (i := 0) (N := some 63) (v := ?_) (a' := ?_) #[true, false, false, false, false, false, false, false, false, false, false, false] rfl rfl (by kernel_rfl) (fun _ _ _ h => h) (Or.inl ⟨by rfl, ?_⟩) ?_ ?_; rotate_left; (focus (intro w'_; go_simp; with_reducible rfl)); rotate_left; (focus (simp only [Act.put, List.setIfInBounds_toArray, List.set_cons_zero, List.set_cons_succ]; rfl)))
                  (refine pure_ (i := 2) (N := some 65) (v := ?_) (a' := ?_) #[true, false, true, false, false, false, false, false, false, false, false, false] rfl rfl (by kernel_rfl) (fun _ _ _ h => h) (Or.inl ⟨by rfl, ?_⟩) ?_ ?_; rotate_left; (focus (intro w'_; go_simp; with_reducible rfl)); rotate_left; (focus (simp only [Act.put, List.setIfInBounds_toArray, List.set_cons_zero, List.set_cons_succ]; rfl)))
                  (refine pure_ (i := 5) (N := some 68) (v := ?_) (a' := ?_) #[true, false, true, false, false, true, false, false, false, false, false, false] rfl rfl (by kernel_rfl) (fun _ _ _ h => h) (Or.inl ⟨by rfl, ?_⟩) ?_ ?_; rotate_left; (focus (intro w'_; go_simp; with_reducible rfl)); rotate_left; (focus (simp only [Act.put, List.setIfInBounds_toArray, List.set_cons_zero, List.set_cons_succ]; rfl)))
                  (refine pure_ (i := 7) (N := some 70) (v := ?_) (a' := ?_) #[true, false, true, false, false, true, false, true, false, false, false, false] rfl rfl (by kernel_rfl) (fun _ _ _ h => h) (Or.inl ⟨by rfl, ?_⟩) ?_ ?_; rotate_left; (focus (intro w'_; go_simp; with_reducible rfl)); rotate_left; (focus (simp only [Act.put, List.setIfInBounds_toArray, List.set_cons_zero, List.set_cons_succ]; rfl)))
                  (refine take_ (i := 1) (N := some 64) (v := ?_) (a' := ?_) #[true, true, true, false, false, true, false, true, false, false, false, false] rfl rfl (by kernel_rfl) (fun _ _ _ h => h) (Or.inl ⟨by rfl, ?_⟩) hHeld ?_ ?_; rotate_left; (focus (intro w'_ hs_; (repeat obtain ⟨_, hs_⟩ := hs_); go_simp; with_reducible rfl)); rotate_left; (focus (simp only [Act.put, List.setIfInBounds_toArray, List.set_cons_zero, List.set_cons_succ]; rfl)))
                  (refine take_ (i := 6) (N := some 69) (v := ?_) (a' := ?_) #[true, true, true, false, false, true, true, true, false, false, false, false] rfl rfl (by kernel_rfl) (fun _ _ _ h => h) (Or.inl ⟨by rfl, ?_⟩) hHeld ?_ ?_; rotate_left; (focus (intro w'_ hs_; (repeat obtain ⟨_, hs_⟩ := hs_); go_simp; with_reducible rfl)); rotate_left; (focus (simp only [Act.put, List.setIfInBounds_toArray, List.set_cons_zero, List.set_cons_succ]; rfl)))
                  (refine pure_ (i := 3) (N := some 66) (v := ?_) (a' := ?_) #[true, true, true, true, false, true, true, true, false, false, false, false] rfl rfl (by kernel_rfl) (fun _ _ _ h => h) (Or.inl ⟨by rfl, ?_⟩) ?_ ?_; rotate_left; (focus (intro w'_; go_simp; with_reducible rfl)); rotate_left; (focus (simp only [Act.put, List.setIfInBounds_toArray, List.set_cons_zero, List.set_cons_succ]; rfl)))
                  (refine pure_ (i := 8) (N := some 71) (v := ?_) (a' := ?_) #[true, true, true, true, false, true, true, true, true, false, false, false] rfl rfl (by kernel_rfl) (fun _ _ _ h => h) (Or.inl ⟨by rfl, ?_⟩) ?_ ?_; rotate_left; (focus (intro w'_; go_simp; with_reducible rfl)); rotate_left; (focus (simp only [Act.put, List.setIfInBounds_toArray, List.set_cons_zero, List.set_cons_succ]; rfl)))
                  (refine take_ (i := 4) (N := some 67) (v := ?_) (a' := ?_) #[true, true, true, true, true, true, true, true, true, false, false, false] rfl rfl (by kernel_rfl) (fun _ _ _ h => h) (Or.inl ⟨by rfl, ?_⟩) hHeld ?_ ?_; rotate_left; (focus (intro w'_ hs_; (repeat obtain ⟨_, hs_⟩ := hs_); go_simp; with_reducible rfl)); rotate_left; (focus (simp only [Act.put, List.setIfInBounds_toArray, List.set_cons_zero, List.set_cons_succ]; rfl)))
                  (refine take_ (i := 9) (N := some 72) (v := ?_) (a' := ?_) #[true, true, true, true, true, true, true, true, true, true, false, false] rfl rfl (by kernel_rfl) (fun _ _ _ h => h) (Or.inl ⟨by rfl, ?_⟩) hHeld ?_ ?_; rotate_left; (focus (intro w'_ hs_; (repeat obtain ⟨_, hs_⟩ := hs_); go_simp; with_reducible rfl)); rotate_left; (focus (simp only [Act.put, List.setIfInBounds_toArray, List.set_cons_zero, List.set_cons_succ]; rfl)))
                  refine one_ (i := 10) (N := some 73) #[true, true, true, true, true, true, true, true, true, true, true, false] rfl rfl (by kernel_rfl) (by decide) (fun K hK => ?_)
                  refine goes_ Tryd.func33 (by kernel_rfl) rfl #[.agg #[.int .i64 ka.f0, .slice B1 ka.f1.length b1, .slice B2 ka.f2.length b2, .slice B3 ka.f3.length b3], .agg #[.int .i64 kb.f0, .slice F1 kb.f1.length f1, .slice F2 kb.f2.length f2, .slice F3 kb.f3.length f3]] (by rfl) rfl rfl (by (try simp only [List.map_toArray, List.map_cons, List.map_nil]); first | done | rfl) ?_
                  have hbw := below_step HB.out HWd.out
                  refine (IH.out _ _ ka kb Wd (HIA.out.below hbw) (HIB.out.below hbw) HPA.out.1 (by have := HN.out; omega) HPA.out.2).mono ?_
                  rintro e X1 ⟨rfl, hb1⟩
                  have hw1 := below_step HWd.out hb1
                  refine ⟨_, rfl, hK.out _ _ ⟨cell_below hw1 Z3.out, cell_below hw1 Y3.out, cell_below hw1 U0.out, cell_below hw1 U1.out, cell_below hw1 U2.out, cell_below hw1 U3.out, cell_below hw1 V0.out, cell_below hw1 V1.out, cell_below hw1 V2.out, cell_below hw1 V3.out, trivial⟩ (fun hHeld2 => ?_)⟩
                  clear hK K
                  (refine norm_ (a' := ?_) ?_ ?_; rotate_left; focus (show Act.put _ (some 73) _ = _; simp only [Act.put, List.setIfInBounds_toArray, List.set_cons_zero, List.set_cons_succ]; rfl))
                  cases hq : eqG ka kb with
                  | true =>
                    (refine pure_ (i := 11) (N := some 74) (v := ?_) (a' := ?_) #[true, true, true, true, true, true, true, true, true, true, true, true] rfl rfl (by kernel_rfl) (fun _ _ _ h => h) (Or.inl ⟨by rfl, ?_⟩) ?_ ?_; rotate_left; (focus (intro w'_; go_simp; with_reducible rfl)); rotate_left; (focus (simp only [Act.put, List.setIfInBounds_toArray, List.set_cons_zero, List.set_cons_succ]; rfl)))
                    refine done_ (by kernel_rfl) ?_
                    have HT2 := Aside0.mk (show a.f3.take (j + 1) = b.f3.take (j + 1) by rw [HTa.out, HTb.out, HT.out, (eqG_iff _ _).1 hq])
                    have HW1 := Aside0.mk hw1
                    clear hw1 hb1 hbw hHeld hHeld2 hq
                    go_wp2_with fail
                    go_roundg kq
                    case measure => omega
                    case rel => exact ⟨j + 1, by omega, by go_num, HT2, HW1⟩
                  | false =>
                    (refine pure_ (i := 11) (N := some 74) (v := ?_) (a' := ?_) #[true, true, true, true, true, true, true, true, true, true, true, true] rfl rfl (by kernel_rfl) (fun _ _ _ h => h) (Or.inl ⟨by rfl, ?_⟩) ?_ ?_; rotate_left; (focus (intro w'_; go_simp; with_reducible rfl)); rotate_left; (focus (simp only [Act.put, List.setIfInBounds_toArray, List.set_cons_zero, List.set_cons_succ]; rfl)))
                    refine done_ (by kernel_rfl) ?_
                    have HE := Aside0.mk (show a ≠ b from by
                      intro hab
                      have h := HTa.out.symm.trans ((by rw [hab] : a.f3.take (j + 1) = b.f3.take (j + 1)).trans HTb.out)
                      have h2 := List.append_inj_right' h rfl
                      injection h2 with h2
                      rw [eqG_true h2] at hq
                      cases hq)
                    have HW1 := Aside0.mk hw1
                    clear hw1 hb1 hbw hHeld hHeld2 hq
                    go_wp2_with fail
                    go_ret
                    exact ⟨ret_b (eqG_false HE.out).symm, below_step HB.out HW1.out⟩
            | succ kq =>
              have hlt : j < a.f2.length := by omega
              have hltb : j < b.f2.length := by have := Q2.out; omega
              obtain ⟨a2, A0, c0, ea, hx, hl, hc⟩ := at_L2 H2.out j (by omega) (by omega)
              obtain ⟨a4, B0, b0, eb, hy, hm, hd⟩ := at_L2 K2.out j (by omega) (by omega)
              subst ea eb
              rw [rd_L2_at _ _ hlt, Int.toNat_natCast] at hx
              rw [rd_L2_at _ _ hlt] at hc
              rw [rd_L2_at _ _ hltb, Int.toNat_natCast] at hy
              rw [rd_L2_at _ _ hltb] at hd
              have hlen : (a.f2[j]).length ≤ 1073741824 := by
                have h1 := upTo_le a.f2 (j + 1)
                rw [upTo_succ a.f2 j hlt] at h1
                have := HBQ.out.1
                have := HBQ.out.2.1
                have := HN.out
                omega
              have HCR := Aside0.mk (fun W (hb : Below w.heap.size w W) => sameLine_calls A0 B0 c0 b0 a.f2[j] b.f2[j] W (Kd.C_below hc hb) (Kd.C_below hd hb) hlen)
              have hx' := cell_below HB.out hx
              have hy' := cell_below HB.out hy
              have i0 : (0 : Int) ≤ (j : Int) := by omega
              have hj1 : (j : Int) < (a.f2.length : Int) := by omega
              have hj2 : (j : Int) < (b.f2.length : Int) := by have := Q2.out; omega
              obtain ⟨LA, hLA⟩ : ∃ k, k = a.f2[j] := ⟨_, rfl⟩
              obtain ⟨LB, hLB⟩ : ∃ k, k = b.f2[j] := ⟨_, rfl⟩
              rw [← hLA, ← hLB] at HCR
              rw [← hLA] at hx'
              rw [← hLB] at hy'
              have HTa := Aside0.mk (show a.f2.take (j + 1) = a.f2.take j ++ [LA] by rw [List.take_succ_eq_append_getElem hlt, hLA])
              have HTb := Aside0.mk (show b.f2.take (j + 1) = b.f2.take j ++ [LB] by rw [List.take_succ_eq_append_getElem hltb, hLB])
              clear hx hy hc hd hl hm hLA hLB hlen
              cases hq : eqL LA LB with
              | true =>
                rw [hq] at HCR
                have HQ := Aside0.mk ((eqL_iff _ _).1 hq)
                clear hq
                go_wp2_with fail
                go_quiet ((refine (HCR.out _ (by repeat (first | exact HB.out | apply pw_below_drewN))).mono ?_; rintro e w' ⟨rfl, nd, rfl⟩; exact ⟨rfl, _, (World.drewN_drewN _ _ _).trans (congrArg W0.drewN (Nat.add_assoc _ _ _))⟩))
                go_wp2_with fail
                go_roundg kq
                case measure => omega
                case rel => exact ⟨j + 1, by omega, by go_num, ⟨by rw [HTa.out, HTb.out, HT.out, HQ.out]⟩, _, rfl⟩
              | false =>
                rw [hq] at HCR
                have HE := Aside0.mk (show a ≠ b from by
                  rintro rfl
                  have h := HTa.out.symm.trans HTb.out
                  have h2 := List.append_inj_right' h rfl
                  injection h2 with h2
                  rw [eqL_true h2] at hq
                  cases hq)
                clear hq
                go_wp2_with fail
                go_quiet ((refine (HCR.out _ (by repeat (first | exact HB.out | apply pw_below_drewN))).mono ?_; rintro e w' ⟨rfl, nd, rfl⟩; exact ⟨rfl, _, (World.drewN_drewN _ _ _).trans (congrArg W0.drewN (Nat.add_assoc _ _ _))⟩))
                go_wp2_with fail
                go_ret
                exact ⟨ret_b (eqG_false HE.out).symm, by repeat (first | exact HB.out | apply pw_below_drewN)⟩
        · have HE := Aside0.mk (show a ≠ b from fun e => q3 (by rw [e]))
          have t0 : (a.f0 == b.f0) = true := beq_iff_eq.mpr q0
          have t0' : (a.f0 != b.f0) = false := bne_eq_false_iff_eq.mpr q0
          have t2 : ((a.f2.length : Int) == (b.f2.length : Int)) = true := beq_iff_eq.mpr (by omega)
          have t2' : ((a.f2.length : Int) != (b.f2.length : Int)) = false := bne_eq_false_iff_eq.mpr (by omega)
          have t3 : ((a.f3.length : Int) == (b.f3.length : Int)) = false := beq_eq_false_iff_ne.mpr (by omega)
          have t3' : ((a.f3.length : Int) != (b.f3.length : Int)) = true := bne_iff_ne.mpr (by omega)
          have Q1 := Aside0.mk q1
          clear q0 q1 q2 q3
          go_wp2_with fail
          obtain ⟨ga, hga⟩ : ∃ x, x = w.heap.size := ⟨_, rfl⟩
          obtain ⟨gb, hgb⟩ : ∃ x, x = w.heap.size + 1 := ⟨_, rfl⟩
          obtain ⟨W0, hW0⟩ : ∃ x, x = ((w.alloc (.cells #[.int .i64 a.f0, .slice A1 a.f1.length c1, .slice A2 a.f2.length c2, .slice A3 a.f3.length c3] 28)).alloc (.cells #[.int .i64 b.f0, .slice D1 b.f1.length d1, .slice D2 b.f2.length d2, .slice D3 b.f3.length d3] 28)) := ⟨_, rfl⟩
          rw [← hW0, ← hgb, ← hga]
          have BA := Aside0.mk (show W0.heap[ga]? = some (.cells #[.int .i64 a.f0, .slice A1 a.f1.length c1, .slice A2 a.f2.length c2, .slice A3 a.f3.length c3] 28 (0, 0)) by rw [hW0, hga]; exact blk_alloc (World.alloc_heap_new _ _) _)
          have BB := Aside0.mk (show W0.heap[gb]? = some (.cells #[.int .i64 b.f0, .slice D1 b.f1.length d1, .slice D2 b.f2.length d2, .slice D3 b.f3.length d3] 28 (0, 0)) by
            rw [hW0, hgb]
            have h := World.alloc_heap_new (w.alloc (.cells #[.int .i64 a.f0, .slice A1 a.f1.length c1, .slice A2 a.f2.length c2, .slice A3 a.f3.length c3] 28)) (.cells #[.int .i64 b.f0, .slice D1 b.f1.length d1, .slice D2 b.f2.length d2, .slice D3 b.f3.length d3] 28)
            simpa using h)
          have HB := Aside0.mk (show Below w.heap.size w W0 by rw [hW0]; exact below_alloc (below_alloc (Below.refl _ _) _) _)
          have HGA := Aside0.mk hga
          clear hW0 hga hgb HB0
          have z0 : W0.cell? ⟨ga, 0, none⟩ = some (.int .i64 a.f0) := (blk_cell BA.out 0).trans rfl
          have z1 : W0.cell? ⟨ga, 1, none⟩ = some (.slice A1 a.f1.length c1) := (blk_cell BA.out 1).trans rfl
          have z2 : W0.cell? ⟨ga, 2, none⟩ = some (.slice A2 a.f2.length c2) := (blk_cell BA.out 2).trans rfl
          have z3 : W0.cell? ⟨ga, 3, none⟩ = some (.slice A3 a.f3.length c3) := (blk_cell BA.out 3).trans rfl
          have y0 : W0.cell? ⟨gb, 0, none⟩ = some (.int .i64 b.f0) := (blk_cell BB.out 0).trans rfl
          have y1 : W0.cell? ⟨gb, 1, none⟩ = some (.slice D1 b.f1.length d1) := (blk_cell BB.out 1).trans rfl
          have y2 : W0.cell? ⟨gb, 2, none⟩ = some (.slice D2 b.f2.length d2) := (blk_cell BB.out 2).trans rfl
          have y3 : W0.cell? ⟨gb, 3, none⟩ = some (.slice D3 b.f3.length d3) := (blk_cell BB.out 3).trans rfl
          refine (sameLine_calls A1 D1 c1 d1 a.f1 b.f1 W0 (Kd.C_below H1.out HB.out) (Kd.C_below K1.out HB.out) hb1).mono ?_
          rintro e w' ⟨rfl, nd, rfl⟩
          rw [eqL_true Q1.out]
          go_wp2_with fail
          go_ret
          exact ⟨ret_b (eqG_false HE.out).symm, pw_below_drewN HB.out _⟩
      · have HE := Aside0.mk (show a ≠ b from fun e => q2 (by rw [e]))
        have t0 : (a.f0 == b.f0) = true := beq_iff_eq.mpr q0
        have t0' : (a.f0 != b.f0) = false := bne_eq_false_iff_eq.mpr q0
        have t2 : ((a.f2.length : Int) == (b.f2.length : Int)) = false := beq_eq_false_iff_ne.mpr (by omega)
        have t2' : ((a.f2.length : Int) != (b.f2.length : Int)) = true := bne_iff_ne.mpr (by omega)
        have Q1 := Aside0.mk q1
        clear q0 q1 q2
        go_wp2_with fail
        obtain ⟨ga, hga⟩ : ∃ x, x = w.heap.size := ⟨_, rfl⟩
        obtain ⟨gb, hgb⟩ : ∃ x, x = w.heap.size + 1 := ⟨_, rfl⟩
        obtain ⟨W0, hW0⟩ : ∃ x, x = ((w.alloc (.cells #[.int .i64 a.f0, .slice A1 a.f1.length c1, .slice A2 a.f2.length c2, .slice A3 a.f3.length c3] 28)).alloc (.cells #[.int .i64 b.f0, .slice D1 b.f1.length d1, .slice D2 b.f2.length d2, .slice D3 b.f3.length d3] 28)) := ⟨_, rfl⟩
        rw [← hW0, ← hgb, ← hga]
        have BA := Aside0.mk (show W0.heap[ga]? = some (.cells #[.int .i64 a.f0, .slice A1 a.f1.length c1, .slice A2 a.f2.length c2, .slice A3 a.f3.length c3] 28 (0, 0)) by rw [hW0, hga]; exact blk_alloc (World.alloc_heap_new _ _) _)
        have BB := Aside0.mk (show W0.heap[gb]? = some (.cells #[.int .i64 b.f0, .slice D1 b.f1.length d1, .slice D2 b.f2.length d2, .slice D3 b.f3.length d3] 28 (0, 0)) by
          rw [hW0, hgb]
          have h := World.alloc_heap_new (w.alloc (.cells #[.int .i64 a.f0, .slice A1 a.f1.length c1, .slice A2 a.f2.length c2, .slice A3 a.f3.length c3] 28)) (.cells #[.int .i64 b.f0, .slice D1 b.f1.length d1, .slice D2 b.f2.length d2, .slice D3 b.f3.length d3] 28)
          simpa using h)
        have HB := Aside0.mk (show Below w.heap.size w W0 by rw [hW0]; exact below_alloc (below_alloc (Below.refl _ _) _) _)
        have HGA := Aside0.mk hga
        clear hW0 hga hgb HB0
        have z0 : W0.cell? ⟨ga, 0, none⟩ = some (.int .i64 a.f0) := (blk_cell BA.out 0).trans rfl
        have z1 : W0.cell? ⟨ga, 1, none⟩ = some (.slice A1 a.f1.length c1) := (blk_cell BA.out 1).trans rfl
        have z2 : W0.cell? ⟨ga, 2, none⟩ = some (.slice A2 a.f2.length c2) := (blk_cell BA.out 2).trans rfl
        have z3 : W0.cell? ⟨ga, 3, none⟩ = some (.slice A3 a.f3.length c3) := (blk_cell BA.out 3).trans rfl
        have y0 : W0.cell? ⟨gb, 0, none⟩ = some (.int .i64 b.f0) := (blk_cell BB.out 0).trans rfl
        have y1 : W0.cell? ⟨gb, 1, none⟩ = some (.slice D1 b.f1.length d1) := (blk_cell BB.out 1).trans rfl
        have y2 : W0.cell? ⟨gb, 2, none⟩ = some (.slice D2 b.f2.length d2) := (blk_cell BB.out 2).trans rfl
        have y3 : W0.cell? ⟨gb, 3, none⟩ = some (.slice D3 b.f3.length d3) := (blk_cell BB.out 3).trans rfl
        refine (sameLine_calls A1 D1 c1 d1 a.f1 b.f1 W0 (Kd.C_below H1.out HB.out) (Kd.C_below K1.out HB.out) hb1).mono ?_
        rintro e w' ⟨rfl, nd, rfl⟩
        rw [eqL_true Q1.out]
        go_wp2_with fail
        go_ret
        exact ⟨ret_b (eqG_false HE.out).symm, pw_below_drewN HB.out _⟩
    · have HE := Aside0.mk (show a ≠ b from fun e => q1 (by rw [e]))
      have t0 : (a.f0 == b.f0) = true := beq_iff_eq.mpr q0
      have t0' : (a.f0 != b.f0) = false := bne_eq_false_iff_eq.mpr q0
      have Q1 := Aside0.mk q1
      clear q0 q1
      go_wp2_with fail
      obtain ⟨ga, hga⟩ : ∃ x, x = w.heap.size := ⟨_, rfl⟩
      obtain ⟨gb, hgb⟩ : ∃ x, x = w.heap.size + 1 := ⟨_, rfl⟩
      obtain ⟨W0, hW0⟩ : ∃ x, x = ((w.alloc (.cells #[.int .i64 a.f0, .slice A1 a.f1.length c1, .slice A2 a.f2.length c2, .slice A3 a.f3.length c3] 28)).alloc (.cells #[.int .i64 b.f0, .slice D1 b.f1.length d1, .slice D2 b.f2.length d2, .slice D3 b.f3.length d3] 28)) := ⟨_, rfl⟩
      rw [← hW0, ← hgb, ← hga]
      have BA := Aside0.mk (show W0.heap[ga]? = some (.cells #[.int .i64 a.f0, .slice A1 a.f1.length c1, .slice A2 a.f2.length c2, .slice A3 a.f3.length c3] 28 (0, 0)) by rw [hW0, hga]; exact blk_alloc (World.alloc_heap_new _ _) _)
      have BB := Aside0.mk (show W0.heap[gb]? = some (.cells #[.int .i64 b.f0, .slice D1 b.f1.length d1, .slice D2 b.f2.length d2, .slice D3 b.f3.length d3] 28 (0, 0)) by
        rw [hW0, hgb]
        have h := World.alloc_heap_new (w.alloc (.cells #[.int .i64 a.f0, .slice A1 a.f1.length c1, .slice A2 a.f2.length c2, .slice A3 a.f3.length c3] 28)) (.cells #[.int .i64 b.f0, .slice D1 b.f1.length d1, .slice D2 b.f2.length d2, .slice D3 b.f3.length d3] 28)
        simpa using h)
      have HB := Aside0.mk (show Below w.heap.size w W0 by rw [hW0]; exact below_alloc (below_alloc (Below.refl _ _) _) _)
      have HGA := Aside0.mk hga
      clear hW0 hga hgb HB0
      have z0 : W0.cell? ⟨ga, 0, none⟩ = some (.int .i64 a.f0) := (blk_cell BA.out 0).trans rfl
      have z1 : W0.cell? ⟨ga, 1, none⟩ = some (.slice A1 a.f1.length c1) := (blk_cell BA.out 1).trans rfl
      have z2 : W0.cell? ⟨ga, 2, none⟩ = some (.slice A2 a.f2.length c2) := (blk_cell BA.out 2).trans rfl
      have z3 : W0.cell? ⟨ga, 3, none⟩ = some (.slice A3 a.f3.length c3) := (blk_cell BA.out 3).trans rfl
      have y0 : W0.cell? ⟨gb, 0, none⟩ = some (.int .i64 b.f0) := (blk_cell BB.out 0).trans rfl
      have y1 : W0.cell? ⟨gb, 1, none⟩ = some (.slice D1 b.f1.length d1) := (blk_cell BB.out 1).trans rfl
      have y2 : W0.cell? ⟨gb, 2, none⟩ = some (.slice D2 b.f2.length d2) := (blk_cell BB.out 2).trans rfl
      have y3 : W0.cell? ⟨gb, 3, none⟩ = some (.slice D3 b.f3.length d3) := (blk_cell BB.out 3).trans rfl
      refine (sameLine_calls A1 D1 c1 d1 a.f1 b.f1 W0 (Kd.C_below H1.out HB.out) (Kd.C_below K1.out HB.out) hb1).mono ?_
      rintro e w' ⟨rfl, nd, rfl⟩
      rw [eqL_false Q1.out]
      go_wp2_with fail
      go_ret
      exact ⟨ret_b (eqG_false HE.out).symm, pw_below_drewN HB.out _⟩
  · have HE := Aside0.mk (show a ≠ b from fun e => q0 (by rw [e]))
    have t0 : (a.f0 == b.f0) = false := beq_eq_false_iff_ne.mpr q0
    have t0' : (a.f0 != b.f0) = true := bne_iff_ne.mpr q0
    clear q0
    go_wp2_with fail
    obtain ⟨ga, hga⟩ : ∃ x, x = w.heap.size := ⟨_, rfl⟩
    obtain ⟨gb, hgb⟩ : ∃ x, x = w.heap.size + 1 := ⟨_, rfl⟩
    obtain ⟨W0, hW0⟩ : ∃ x, x = ((w.alloc (.cells #[.int .i64 a.f0, .slice A1 a.f1.length c1, .slice A2 a.f2.length c2, .slice A3 a.f3.length c3] 28)).alloc (.cells #[.int .i64 b.f0, .slice D1 b.f1.length d1, .slice D2 b.f2.length d2, .slice D3 b.f3.length d3] 28)) := ⟨_, rfl⟩
    rw [← hW0, ← hgb, ← hga]
    have BA := Aside0.mk (show W0.heap[ga]? = some (.cells #[.int .i64 a.f0, .slice A1 a.f1.length c1, .slice A2 a.f2.length c2, .slice A3 a.f3.length c3] 28 (0, 0)) by rw [hW0, hga]; exact blk_alloc (World.alloc_heap_new _ _) _)
    have BB := Aside0.mk (show W0.heap[gb]? = some (.cells #[.int .i64 b.f0, .slice D1 b.f1.length d1, .slice D2 b.f2.length d2, .slice D3 b.f3.length d3] 28 (0, 0)) by
      rw [hW0, hgb]
      have h := World.alloc_heap_new (w.alloc (.cells #[.int .i64 a.f0, .slice A1 a.f1.length c1, .slice A2 a.f2.length c2, .slice A3 a.f3.length c3] 28)) (.cells #[.int .i64 b.f0, .slice D1 b.f1.length d1, .slice D2 b.f2.length d2, .slice D3 b.f3.length d3] 28)
      simpa using h)
    have HB := Aside0.mk (show Below w.heap.size w W0 by rw [hW0]; exact below_alloc (below_alloc (Below.refl _ _) _) _)
    have HGA := Aside0.mk hga
    clear hW0 hga hgb HB0
    have z0 : W0.cell? ⟨ga, 0, none⟩ = some (.int .i64 a.f0) := (blk_cell BA.out 0).trans rfl
    have z1 : W0.cell? ⟨ga, 1, none⟩ = some (.slice A1 a.f1.length c1) := (blk_cell BA.out 1).trans rfl
    have z2 : W0.cell? ⟨ga, 2, none⟩ = some (.slice A2 a.f2.length c2) := (blk_cell BA.out 2).trans rfl
    have z3 : W0.cell? ⟨ga, 3, none⟩ = some (.slice A3 a.f3.length c3) := (blk_cell BA.out 3).trans rfl
    have y0 : W0.cell? ⟨gb, 0, none⟩ = some (.int .i64 b.f0) := (blk_cell BB.out 0).trans rfl
    have y1 : W0.cell? ⟨gb, 1, none⟩ = some (.slice D1 b.f1.length d1) := (blk_cell BB.out 1).trans rfl
    have y2 : W0.cell? ⟨gb, 2, none⟩ = some (.slice D2 b.f2.length d2) := (blk_cell BB.out 2).trans rfl
    have y3 : W0.cell? ⟨gb, 3, none⟩ = some (.slice D3 b.f3.length d3) := (blk_cell BB.out 3).trans rfl
    go_ret
    exact ⟨ret_b (eqG_false HE.out).symm, by rw [HGA.out]; exact HB.out⟩
end Go.Proofs.YtiiolhnpnlmkjaaDoor.Tree
