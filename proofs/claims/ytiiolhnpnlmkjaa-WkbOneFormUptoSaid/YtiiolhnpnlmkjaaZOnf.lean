/- Texts of this claim laid one behind the other (TNum; TPGeom; TRef; TItems; TSmall; TRShape): what each proves stands at its own names; the last one is the claim's. No conditions but those told. -/
import Derived.Test.YtiiolhnpnlmkjaaZOne
import Derived.Test.YtiiolhnpnlmkjaaMath
import Derived.StillTailTactics
import Derived.RangeFuncRecord
import Derived.Laws.BitsAllLaws
namespace Go.Proofs.Ytiiolhnpnlmkjaa.Tree
open Go.RowKit Go.Proofs.Ytiiolhnpnlmkjaa.PWkbPrints Go.Proofs.YtiiolhnpnlmkjaaW.PrintWords Go.Proofs.YtiiolhnpnlmkjaaW.PrintLast Go.Proofs.YtiiolhnpnlmkjaaW.PrintMore Go.Proofs.Ytiiolhnpnlmkjaa.Rdr Go.Proofs.Ytiiolhnpnlmkjaa.Math
def leN : List Nat → Nat
  | [] => 0
  | c :: cs => c + 256 * leN cs
def beN : Nat → List Nat → Nat
  | v, [] => v
  | v, c :: cs => beN (v * 256 + c) cs
def castsB (l : List Nat) : List Int := l.map (fun (n : Nat) => (n : Int))
theorem castsB_length (l : List Nat) : (castsB l).length = l.length := by simp [castsB]
theorem castsB_rd (l : List Nat) (i : Nat) (h : i < l.length) : rd (castsB l) (i : Int) = ((l[i]) : Int) := by
  simp [rd, castsB, List.getD_eq_getElem?_getD, List.getElem?_eq_getElem h]
theorem wrap_small (n : Nat) (h : n < 256) : IntKind.u64.wrap ((n : Nat) : Int) = (n : Int) := by rw [IntKind.wrap_u64]; omega
theorem pow256 (i : Nat) : (2 : Nat) ^ (8 * i) = 256 ^ i := by rw [Nat.pow_mul]
theorem pow_le8 (i : Nat) (h : i ≤ 7) : (256 : Nat) ^ (i + 1) ≤ 18446744073709551616 := by
  have := Nat.pow_le_pow_right (n := 256) (by omega) (show i + 1 ≤ 8 by omega)
  simpa using this
theorem tkl_le (L : List Nat) (hL : ∀ c ∈ L, c < 256) (h8 : L.length ≤ 8) : ∀ (d k i v : Nat), i + d = L.length → d < k → v < 256 ^ i → tkl k (castsB L) true (i : Int) (v : Int) = some (((v + 256 ^ i * leN (L.drop i) : Nat)) : Int) := by
  intro d
  induction d with
  | zero =>
    intro k i v hi hk hv
    obtain ⟨k, rfl⟩ : ∃ m, k = m + 1 := ⟨k - 1, by omega⟩
    rw [tkl, castsB_length, if_neg (by omega), List.drop_eq_nil_of_le (by omega)]
    simp [leN]
  | succ d ih =>
    intro k i v hi hk hv
    obtain ⟨k, rfl⟩ : ∃ m, k = m + 1 := ⟨k - 1, by omega⟩
    have hil : i < L.length := by omega
    have hc : L[i] < 256 := hL _ (List.getElem_mem hil)
    have hp8 := pow_le8 i (by omega)
    rw [Nat.pow_succ] at hp8
    have hpp : 0 < 256 ^ i := Nat.pow_pos (by omega)
    have hm : L[i] * 256 ^ i ≤ 255 * 256 ^ i := Nat.mul_le_mul_right _ (by omega)
    rw [tkl, castsB_length, if_pos (by omega), castsB_rd L i hil, if_pos rfl, wrap_small _ hc, show (8 : Int) * (i : Int) = ((8 * i : Nat) : Int) from by omega, shlN _ (8 * i) (by omega), pow256, Nat.mod_eq_of_lt (by omega), ← pow256]
    rw [orN_add v L[i] (8 * i) (by rw [pow256]; exact hv) (by rw [pow256, Nat.mul_comm]; omega), pow256, show (i : Int) + 1 = ((i + 1 : Nat) : Int) from by omega]
    rw [ih k (i + 1) _ (by omega) (by omega) (by rw [Nat.pow_succ, Nat.mul_comm (256 ^ i) L[i]]; omega), List.drop_eq_getElem_cons hil, leN, Nat.pow_succ]
    congr 2
    rw [Nat.mul_add, ← Nat.mul_assoc, Nat.add_assoc]
theorem tkl_be (L : List Nat) (hL : ∀ c ∈ L, c < 256) (h8 : L.length ≤ 8) : ∀ (d k i v : Nat), i + d = L.length → d < k → v < 256 ^ i → tkl k (castsB L) false (i : Int) (v : Int) = some ((beN v (L.drop i) : Nat) : Int) := by
  intro d
  induction d with
  | zero =>
    intro k i v hi hk hv
    obtain ⟨k, rfl⟩ : ∃ m, k = m + 1 := ⟨k - 1, by omega⟩
    rw [tkl, castsB_length, if_neg (by omega), List.drop_eq_nil_of_le (by omega)]
    rfl
  | succ d ih =>
    intro k i v hi hk hv
    obtain ⟨k, rfl⟩ : ∃ m, k = m + 1 := ⟨k - 1, by omega⟩
    have hil : i < L.length := by omega
    have hc : L[i] < 256 := hL _ (List.getElem_mem hil)
    have hp8 := pow_le8 i (by omega)
    rw [Nat.pow_succ] at hp8
    rw [tkl, castsB_length, if_pos (by omega), castsB_rd L i hil, if_neg (by decide), wrap_small _ hc, show (8 : Int) = ((8 : Nat) : Int) from rfl, shlN v 8 (by omega), Nat.mod_eq_of_lt (by omega)]
    rw [orN_add' L[i] v 8 (by omega) (by omega), show (i : Int) + 1 = ((i + 1 : Nat) : Int) from by omega, ih k (i + 1) _ (by omega) (by omega) (by rw [Nat.pow_succ]; omega), List.drop_eq_getElem_cons hil, beN]
    congr 3
    omega
def b4 (U : Nat) : List Nat := [U % 256, U / 256 % 256, U / 65536 % 256, U / 16777216 % 256]
def b8 (V : Nat) : List Nat := [V % 256, V / 256 % 256, V / 65536 % 256, V / 16777216 % 256, V / 4294967296 % 256, V / 1099511627776 % 256, V / 281474976710656 % 256, V / 72057594037927936 % 256]
theorem b4_le (U : Nat) (h : U < 4294967296) : leN (b4 U) = U := by simp only [b4, leN]; omega
theorem b4_be (U : Nat) (h : U < 4294967296) : beN 0 (b4 U).reverse = U := by simp only [b4, List.reverse_cons, List.reverse_nil, List.nil_append, List.cons_append, beN]; omega
theorem b8_le (V : Nat) (h : V < 18446744073709551616) : leN (b8 V) = V := by simp only [b8, leN]; omega
theorem b8_be (V : Nat) (h : V < 18446744073709551616) : beN 0 (b8 V).reverse = V := by simp only [b8, List.reverse_cons, List.reverse_nil, List.nil_append, List.cons_append, beN]; omega
theorem b4_byte (U : Nat) : ∀ c ∈ b4 U, c < 256 := by intro c hc; simp only [b4, List.mem_cons, List.not_mem_nil, or_false] at hc; omega
theorem b8_byte (U : Nat) : ∀ c ∈ b8 U, c < 256 := by intro c hc; simp only [b8, List.mem_cons, List.not_mem_nil, or_false] at hc; omega
/-- So many bytes stand at a place. -/
def St (b : List Int) (a : Nat) (X : List Int) : Prop := ∃ t, b.drop a = X ++ t
def Byt (b : List Int) : Prop := ∀ x ∈ b, 0 ≤ x ∧ x < 256
section
variable {b X Y : List Int} {a k : Nat}
theorem St.app (h : St b a (X ++ Y)) : St b a X ∧ St b (a + X.length) Y := by
  obtain ⟨t, h⟩ := h
  rw [List.append_assoc] at h
  exact ⟨⟨_, h⟩, t, by rw [← List.drop_drop, h, List.drop_left]⟩
theorem St.le (h : St b a X) (ha : a ≤ b.length) : a + X.length ≤ b.length := by
  obtain ⟨t, h⟩ := h
  have := congrArg List.length h
  rw [List.length_drop, List.length_append] at this
  omega
theorem St.take (h : St b a X) : (b.drop a).take X.length = X := by
  obtain ⟨t, h⟩ := h
  rw [h, List.take_left]
theorem St.of_take (n : Nat) : St b a ((b.drop a).take n) := ⟨_, (List.take_append_drop _ _).symm⟩
theorem St.cut (h : St b a X) (ha : a + X.length ≤ k) : St (b.take k) a X := by
  obtain ⟨t, h⟩ := h
  refine ⟨t.take (k - a - X.length), ?_⟩
  rw [List.drop_take, h, show k - a = X.length + (k - a - X.length) from by omega, List.take_length_add_append]
  congr 2
  omega
theorem St.join (h : St b a X) (h2 : St b (a + X.length) Y) : St b a (X ++ Y) := by
  obtain ⟨t, h⟩ := h
  obtain ⟨s, h2⟩ := h2
  rw [← List.drop_drop, h, List.drop_left] at h2
  exact ⟨s, by rw [h, h2, List.append_assoc]⟩
theorem Byt.take (h : Byt b) (a n : Nat) : Byt ((b.drop a).take n) := fun x hx => h x (List.mem_of_mem_drop (List.mem_of_mem_take hx))
theorem nats_of {L : List Int} (h : Byt L) : ∃ N, L = castsB N ∧ ∀ c ∈ N, c < 256 := by
  refine ⟨L.map Int.toNat, ?_, ?_⟩
  · unfold castsB
    rw [List.map_map]
    refine (List.map_id L).symm.trans (List.map_congr_left fun x hx => ?_)
    have := h x hx
    show x = ((x.toNat : Nat) : Int)
    omega
  · intro c hc
    obtain ⟨x, hx, rfl⟩ := List.mem_map.1 hc
    have := h x hx
    omega
theorem numB_nat {L : List Nat} (sz : Nat) (le : Bool) (hs : L.length = sz) (hb : ∀ c ∈ L, c < 256) (h8 : sz ≤ 8) (ht : (b.drop a).take sz = castsB L) : numB b a sz le = ((if le = true then leN L else beN 0 L : Nat) : Int) := by
  unfold numB
  rw [ht]
  cases le
  · have := tkl_be L hb (by omega) L.length 20 0 0 (by omega) (by omega) (by simp)
    rw [if_neg (by decide)]
    erw [this]
    simp
  · have := tkl_le L hb (by omega) L.length 20 0 0 (by omega) (by omega) (by simp)
    rw [if_pos rfl]
    erw [this]
    simp
theorem P32_nat (U : Nat) (le : Bool) : P32 (U : Int) le = castsB (if le = true then b4 U else (b4 U).reverse) := by
  cases le <;> simp [P32, octet_put_uint32.out, castsB, b4]
theorem P64_nat (U : Nat) (le : Bool) : P64 [] (U : Int) le = castsB (if le = true then b8 U else (b8 U).reverse) := by
  cases le <;> simp [P64, octet_put_uint64.out, castsB, b8]
theorem P64_app (l : List Int) (v : Int) (le : Bool) : P64 l v le = l ++ P64 [] v le := by
  cases le <;> simp [P64, octet_put_uint64.out]
theorem St.w32 {v : Int} {le : Bool} (h : St b a (P32 v le)) (h0 : 0 ≤ v) (h1 : v < 4294967296) : numB b a 4 le = v := by
  obtain ⟨U, rfl⟩ := Int.eq_ofNat_of_zero_le h0
  have ht := h.take
  rw [P32_len, P32_nat] at ht
  rw [numB_nat 4 le (by cases le <;> rfl) (by cases le <;> intro c hc <;> simp only [Bool.false_eq_true, if_false, if_true, List.mem_reverse] at hc <;> exact b4_byte U c hc) (by decide) ht]
  cases le <;> simp [b4_le U (by omega), b4_be U (by omega)]
theorem St.w64 {v : Int} {le : Bool} (h : St b a (P64 [] v le)) (h0 : 0 ≤ v) (h1 : v < 18446744073709551616) : numB b a 8 le = v := by
  obtain ⟨U, rfl⟩ := Int.eq_ofNat_of_zero_le h0
  have ht := h.take
  rw [P64_len, P64_nat] at ht
  rw [numB_nat 8 le (by cases le <;> rfl) (by cases le <;> intro c hc <;> simp only [Bool.false_eq_true, if_false, if_true, List.mem_reverse] at hc <;> exact b8_byte U c hc) (by decide) ht]
  cases le <;> simp [b8_le U (by omega), b8_be U (by omega)]
theorem St.w8 {v : Int} (h : St b a [v]) (h0 : 0 ≤ v) (h1 : v < 256) : numB b a 1 false = v := by
  obtain ⟨U, rfl⟩ := Int.eq_ofNat_of_zero_le h0
  have ht := h.take
  rw [numB_nat (L := [U]) 1 false rfl (by intro c hc; rw [List.mem_singleton.1 hc]; omega) (by decide) ht]
  simp [beN]
theorem nat4 {L : List Nat} (h : L.length = 4) : ∃ x y z u, L = [x, y, z, u] := by
  match L, h with
  | [x, y, z, u], _ => exact ⟨x, y, z, u, rfl⟩
theorem nat8 {L : List Nat} (h : L.length = 8) : ∃ x y z u x' y' z' u', L = [x, y, z, u, x', y', z', u'] := by
  match L, h with
  | [x, y, z, u, x', y', z', u'], _ => exact ⟨x, y, z, u, x', y', z', u', rfl⟩
theorem byt_at (hb : Byt b) (n : Nat) (h : a + n ≤ b.length) : ∃ N : List Nat, (b.drop a).take n = castsB N ∧ (∀ c ∈ N, c < 256) ∧ N.length = n := by
  obtain ⟨N, e, hN⟩ := nats_of (hb.take a n)
  refine ⟨N, e, hN, ?_⟩
  have := congrArg List.length e
  rw [castsB_length, List.length_take, List.length_drop] at this
  omega
theorem b4_rev {x y z u : Nat} (h1 : x < 256) (h2 : y < 256) (h3 : z < 256) (h4 : u < 256) : ∀ V, V = x + 256 * (y + 256 * (z + 256 * u)) → b4 V = [x, y, z, u] := by
  intro V hV
  unfold b4
  have e1 : V % 256 = x := by omega
  have e2 : V / 256 % 256 = y := by omega
  have e3 : V / 65536 % 256 = z := by omega
  have e4 : V / 16777216 % 256 = u := by omega
  rw [e1, e2, e3, e4]
theorem w32_of (hb : Byt b) (h : a + 4 ≤ b.length) (le : Bool) : St b a (P32 (numB b a 4 le) le) ∧ 0 ≤ numB b a 4 le ∧ numB b a 4 le < 4294967296 := by
  obtain ⟨N, e, hN, hl⟩ := byt_at hb 4 h
  rw [numB_nat 4 le hl hN (by decide) e]
  have hs : St b a (castsB N) := by rw [← e]; exact St.of_take 4
  obtain ⟨x, y, z, u, rfl⟩ := nat4 hl
  simp only [List.mem_cons, List.not_mem_nil, or_false, forall_eq_or_imp, forall_eq] at hN
  obtain ⟨h1, h2, h3, h4⟩ := hN
  cases le
  · rw [if_neg (by decide)]
    simp only [beN]
    refine ⟨?_, by omega, by omega⟩
    rw [P32_nat, if_neg (by decide), b4_rev h4 h3 h2 h1 _ (by omega)]
    exact hs
  · rw [if_pos rfl]
    simp only [leN]
    refine ⟨?_, by omega, by omega⟩
    rw [P32_nat, if_pos rfl, b4_rev h1 h2 h3 h4 _ (by omega)]
    exact hs
theorem b8_rev {x y z u x' y' z' u' : Nat} (h1 : x < 256) (h2 : y < 256) (h3 : z < 256) (h4 : u < 256) (h5 : x' < 256) (h6 : y' < 256) (h7 : z' < 256) (h8 : u' < 256) : ∀ V, V = x + 256 * (y + 256 * (z + 256 * (u + 256 * (x' + 256 * (y' + 256 * (z' + 256 * u')))))) → b8 V = [x, y, z, u, x', y', z', u'] := by
  intro V hV
  unfold b8
  have e1 : V % 256 = x := by omega
  have e2 : V / 256 % 256 = y := by omega
  have e3 : V / 65536 % 256 = z := by omega
  have e4 : V / 16777216 % 256 = u := by omega
  have e5 : V / 4294967296 % 256 = x' := by omega
  have e6 : V / 1099511627776 % 256 = y' := by omega
  have e7 : V / 281474976710656 % 256 = z' := by omega
  have e8 : V / 72057594037927936 % 256 = u' := by omega
  rw [e1, e2, e3, e4, e5, e6, e7, e8]
theorem w64_of (hb : Byt b) (h : a + 8 ≤ b.length) (le : Bool) : St b a (P64 [] (numB b a 8 le) le) ∧ 0 ≤ numB b a 8 le ∧ numB b a 8 le < 18446744073709551616 := by
  obtain ⟨N, e, hN, hl⟩ := byt_at hb 8 h
  rw [numB_nat 8 le hl hN (by decide) e]
  have hs : St b a (castsB N) := by rw [← e]; exact St.of_take 8
  obtain ⟨x, y, z, u, x', y', z', u', rfl⟩ := nat8 hl
  simp only [List.mem_cons, List.not_mem_nil, or_false, forall_eq_or_imp, forall_eq] at hN
  obtain ⟨h1, h2, h3, h4, h5, h6, h7, h8⟩ := hN
  cases le
  · rw [if_neg (by decide)]
    simp only [beN]
    refine ⟨?_, by omega, by omega⟩
    rw [P64_nat, if_neg (by decide), b8_rev h8 h7 h6 h5 h4 h3 h2 h1 _ (by omega)]
    exact hs
  · rw [if_pos rfl]
    simp only [leN]
    refine ⟨?_, by omega, by omega⟩
    rw [P64_nat, if_pos rfl, b8_rev h1 h2 h3 h4 h5 h6 h7 h8 _ (by omega)]
    exact hs
theorem w8_of (hb : Byt b) (h : a + 1 ≤ b.length) : St b a [numB b a 1 false] ∧ 0 ≤ numB b a 1 false ∧ numB b a 1 false < 256 := by
  obtain ⟨N, e, hN, hl⟩ := byt_at hb 1 h
  rw [numB_nat 1 false hl hN (by decide) e]
  have hs : St b a (castsB N) := by rw [← e]; exact St.of_take 1
  obtain ⟨x, rfl⟩ := List.length_eq_one_iff.1 hl
  have := hN x (List.mem_singleton_self x)
  rw [if_neg (by decide)]
  simp only [beN]
  refine ⟨?_, by omega, by omega⟩
  have e9 : 0 * 256 + x = x := by omega
  rw [e9]
  exact hs
end
end Go.Proofs.Ytiiolhnpnlmkjaa.Tree
namespace Go.Proofs.Ytiiolhnpnlmkjaa.Tree
open Go.RowKit Go.Proofs.Ytiiolhnpnlmkjaa.PWkbPrints Go.Proofs.YtiiolhnpnlmkjaaW.PrintWords Go.Proofs.YtiiolhnpnlmkjaaW.PrintLast Go.Proofs.YtiiolhnpnlmkjaaW.PrintMore
attribute [local go_sem] Oper.semAt_some max2_int max_two min2_int min_two
set_option maxRecDepth 100000 in
set_option maxHeartbeats 16000000 in
theorem pgeom_calls (n : Nat) : ∀ (g : Ge) (w0 W : World) (gp : Nat) (O : Option Addr) (co : Nat) (os : List Bool) (k : Nat) (vo : Value) (out : List Int) (v : Value), g.bulk ≤ n → Pr 71 cfP w0 W gp O co os k vo out → IsG w0 v g → out.length + 32 * g.bulk ≤ 70368744177664 → k + g.bulk ≤ 1152921504606846976 → os.length ≤ 1152921504606846976 →
    Calls Try.prog 22 #[.pointer (some ⟨gp, 0, none⟩), v] W fun e W' => e = .returned (.tuple #[]) ∧ ∃ vo', Pr 71 cfP w0 W' gp O co os (k + cntG g) vo' (out ++ geoB os g k) ∧ Mv W W' gp vo vo' := by
  induction n with
  | zero => intro g w0 W gp O co os k vo out v h; have := g.bulk_eq; omega
  | succ n ih =>
  intro g w0 W gp O co os k vo out v hbk hP hv hl hk hos
  obtain ⟨A1, c1, A2, c2, A3, c3, rfl, l1, h1, l2, h2, l3, h3⟩ := hv
  have hbq := g.bulk_eq
  have HE := Aside0.mk (geoB_eq os g k)
  have HN := Aside0.mk (cntG_eq g)
  have H1 := Aside0.mk h1
  have H2 := Aside0.mk h2
  have H3 := Aside0.mk h3
  have IH := Aside0.mk ih
  have HP := Aside0.mk hP
  clear h1 h2 h3 ih hP
  go_enter Try.func22, Try.ntmps22
  go_wp2_with fail
  obtain ⟨gb, hgb⟩ : ∃ y, y = W.heap.size := ⟨_, rfl⟩
  obtain ⟨W1, hW1⟩ : ∃ y, y = W.alloc (.cells #[.int .i64 g.f0, .slice A1 g.f1.length c1, .slice A2 g.f2.length c2, .slice A3 g.f3.length c3] 28) := ⟨_, rfl⟩
  rw [← hW1, ← hgb]
  have hb1 : Below W.heap.size W W1 := by rw [hW1]; exact below_alloc (Below.refl _ _) _
  have G1 := Aside0.mk (show Gs 71 cfP w0 W W1 gp O co os k vo vo out gb #[.int .i64 g.f0, .slice A1 g.f1.length c1, .slice A2 g.f2.length c2, .slice A3 g.f3.length c3] from ⟨HP.out.below hb1, Mv.below gp vo hb1, by rw [hW1, hgb]; exact World.alloc_heap_new _ _, by have := blk_lt HP.out.c; omega⟩)
  clear hb1 hW1 hgb HP
  refine (order_calls w0 W1 gp O co os k vo out G1.out.P (by omega) hos).mono ?_
  rintro e w2 ⟨rfl, hp2, hm2⟩
  have G2 := Aside0.mk (G1.out.step hp2 hm2)
  have hol : out.length ≤ 70368744177664 := by omega
  clear G1 hp2 hm2
  have hs0 : w2.cell? ⟨gp, 0, none⟩ = some vo := (blk_cell G2.out.P.c 0).trans rfl
  go_upto_if 11 with fail
  go_cut [4] from 9 to 29 (fun c wx => c = .bool (ordAt os k) ∧ ∃ v1, Gs 71 cfP w0 W wx gp O co os (k + 1) vo v1 (out ++ bitB (ordAt os k)) gb #[.int .i64 g.f0, .slice A1 g.f1.length c1, .slice A2 g.f2.length c2, .slice A3 g.f3.length c3])
  case first =>
    cases hle : ordAt os k with
    | true =>
      go_wp2_with ((with_reducible refine gate_builtin (b := .append) (xs := #[.tmp 16, .tmp 17]) rfl ?_); at_builtin; refine Kd.R_append kB (w0 := w0) w0.heap.size rfl (.tmp 16) (.tmp 17) 23 5 (.int .u8 0) 1 rfl Try.underlying23 info5 rfl (by decide) (by omega) vo out (1 : Int) [.int .u8 1] (fun _ => True) (fun _ => False) rfl rfl ?aP ?aK ?aF ?aO ?aB ?aS ?aL ?_; (case aP => rfl); (case aK => exact fun _ h => h.elim); (case aF => exact fun _ _ => trivial); (case aO => exact Kd.R_mono G2.out.P.r (fun _ _ => trivial)); (case aB => exact G2.out.P.K); (case aS => exact G2.out.P.K.size); (case aL => omega); intro v3 w3 ho3 hb3 hg3 hat3; obtain ⟨g1, g2, g3, g4⟩ := G2.out.P.grown ho3 hg3 hat3; obtain ⟨A5, c5, e5⟩ := Kd.R_slice ho3; subst e5; have hs0 : w3.cell? ⟨gp, 0, none⟩ = some vo := (blk_cell g1 0).trans rfl; have hf0 := blk_frozen g1 0; have M3 := Aside0.mk (show Mv w2 w3 gp vo (.slice A5 (out ++ [(1 : Int)]).length c5) from ⟨hg3.size, fun j hj _ hr => hg3.block j hj hr, hat3⟩); (rw [show (out ++ [(1 : Int)]).length = out.length + 1 from by simp] at g2 M3 ⊢); have G3 := Aside0.mk (And.intro g1 (And.intro g2 g3)); clear g1 g2 g3 g4 ho3 hb3 hg3 hat3)
      have hP4 := Pr.set (i := 0) (u := .slice A5 (out.length + 1) c5) (k' := k + 1) G3.out.1 G3.out.2.1 G2.out.P.o G2.out.P.h G3.out.2.2 (by simp [cfP])
      have hM4 := M3.out.trans (Mv.set (W := w3) (gp := gp) (vo' := .slice A5 (out.length + 1) c5) 0 (.slice A5 (out.length + 1) c5) rfl)
      go_meet
      exact ⟨by rw [hle], _, G2.out.step (by rw [bitB, hle]; exact hP4) hM4⟩
    | false =>
      go_wp2_with ((with_reducible refine gate_builtin (b := .append) (xs := #[.tmp 25, .tmp 26]) rfl ?_); at_builtin; refine Kd.R_append kB (w0 := w0) w0.heap.size rfl (.tmp 25) (.tmp 26) 23 5 (.int .u8 0) 1 rfl Try.underlying23 info5 rfl (by decide) (by omega) vo out (0 : Int) [.int .u8 0] (fun _ => True) (fun _ => False) rfl rfl ?aP ?aK ?aF ?aO ?aB ?aS ?aL ?_; (case aP => rfl); (case aK => exact fun _ h => h.elim); (case aF => exact fun _ _ => trivial); (case aO => exact Kd.R_mono G2.out.P.r (fun _ _ => trivial)); (case aB => exact G2.out.P.K); (case aS => exact G2.out.P.K.size); (case aL => omega); intro v3 w3 ho3 hb3 hg3 hat3; obtain ⟨g1, g2, g3, g4⟩ := G2.out.P.grown ho3 hg3 hat3; obtain ⟨A5, c5, e5⟩ := Kd.R_slice ho3; subst e5; have hs0 : w3.cell? ⟨gp, 0, none⟩ = some vo := (blk_cell g1 0).trans rfl; have hf0 := blk_frozen g1 0; have M3 := Aside0.mk (show Mv w2 w3 gp vo (.slice A5 (out ++ [(0 : Int)]).length c5) from ⟨hg3.size, fun j hj _ hr => hg3.block j hj hr, hat3⟩); (rw [show (out ++ [(0 : Int)]).length = out.length + 1 from by simp] at g2 M3 ⊢); have G3 := Aside0.mk (And.intro g1 (And.intro g2 g3)); clear g1 g2 g3 g4 ho3 hb3 hg3 hat3)
      have hP4 := Pr.set (i := 0) (u := .slice A5 (out.length + 1) c5) (k' := k + 1) G3.out.1 G3.out.2.1 G2.out.P.o G2.out.P.h G3.out.2.2 (by simp [cfP])
      have hM4 := M3.out.trans (Mv.set (W := w3) (gp := gp) (vo' := .slice A5 (out.length + 1) c5) 0 (.slice A5 (out.length + 1) c5) rfl)
      go_meet
      exact ⟨by rw [hle], _, G2.out.step (by rw [bitB, hle]; exact hP4) hM4⟩
  case rest =>
    obtain ⟨rfl, v1, hG⟩ := hcut
    have G3 := Aside0.mk hG
    obtain ⟨le, hle⟩ : ∃ y, y = ordAt os k := ⟨_, rfl⟩
    rw [← hle] at G3 HE ⊢
    clear hG G2 hs0 hle
    have z0_ : wc.cell? ⟨gb, 0, none⟩ = some (.int .i64 g.f0) := (blk_cell G3.out.b 0).trans rfl
    have z1_ : wc.cell? ⟨gb, 1, none⟩ = some (.slice A1 g.f1.length c1) := (blk_cell G3.out.b 1).trans rfl
    have z2_ : wc.cell? ⟨gb, 2, none⟩ = some (.slice A2 g.f2.length c2) := (blk_cell G3.out.b 2).trans rfl
    have z3_ : wc.cell? ⟨gb, 3, none⟩ = some (.slice A3 g.f3.length c3) := (blk_cell G3.out.b 3).trans rfl
    go_wp2_with fail
    refine (word_calls w0 wc gp O co os (k + 1) v1 (out ++ bitB le) g.f0 le G3.out.P (by simp only [List.length_append, P32_len, bitB, List.length_singleton]; omega)).mono ?_
    rintro e w4 ⟨rfl, v4, hp4, hm4⟩
    have G4 := Aside0.mk (G3.out.step hp4 hm4)
    clear z0_ z1_ z2_ z3_ G3 hp4 hm4
    have z0_ : w4.cell? ⟨gb, 0, none⟩ = some (.int .i64 g.f0) := (blk_cell G4.out.b 0).trans rfl
    have z1_ : w4.cell? ⟨gb, 1, none⟩ = some (.slice A1 g.f1.length c1) := (blk_cell G4.out.b 1).trans rfl
    have z2_ : w4.cell? ⟨gb, 2, none⟩ = some (.slice A2 g.f2.length c2) := (blk_cell G4.out.b 2).trans rfl
    have z3_ : w4.cell? ⟨gb, 3, none⟩ = some (.slice A3 g.f3.length c3) := (blk_cell G4.out.b 3).trans rfl
    by_cases k1 : g.f0 = 1
    · have k1' : (g.f0 == 1) = true := by rw [k1]; rfl
      rw [if_pos k1] at HE
      rw [if_pos (.inl k1)] at HN
      by_cases e1 : g.f1.length = 0
      · rw [if_pos e1] at HE
        go_wp2_with fail
        obtain ⟨gq, hgq⟩ : ∃ y, y = w4.heap.size := ⟨_, rfl⟩
        obtain ⟨wl, hwl⟩ : ∃ y, y = w4.alloc (.cells #[.int .u64 nanP.f0, .int .u64 nanP.f1] 65) := ⟨_, rfl⟩
        have hwl' : w4.alloc (.cells #[.int .u64 9221120237041090560, .int .u64 9221120237041090560] 65) = wl := hwl.symm
        rw [hwl', ← hgq]
        have hbl : Below w4.heap.size w4 wl := by rw [hwl]; exact below_alloc (Below.refl _ _) _
        have kq : wl.heap[gq]? = some (.cells #[.int .u64 nanP.f0, .int .u64 nanP.f1] 65 (0, 0)) := by rw [hwl, hgq]; exact World.alloc_heap_new _ _
        have hqp : gq ≠ gp := by have := blk_lt G4.out.P.c; omega
        have G5 := Aside0.mk (G4.out.below hbl)
        clear hbl hwl hwl' hgq G4
        refine (points_calls w0 wl gp O co os (k + 1) v4 ((out ++ bitB le) ++ P32 (u32 g.f0) le) (some ⟨gq, 0, none⟩) 1 [nanP] le G5.out.P (fun W' v' _ hm => lit_pt (hm.keep kq hqp (Kd.R_ne G5.out.P.r kq (by decide)))) (by simp only [List.length_append, P32_len, bitB, List.length_singleton]; omega)).mono ?_
        rintro e w5 ⟨rfl, v5, hp5, hm5⟩
        have G6 := Aside0.mk (G5.out.step hp5 hm5)
        clear z0_ z1_ z2_ z3_ G5 hp5 hm5 kq
        go_wp2_with fail
        refine bodyPost_ret (results_none rfl _ _ _) rfl ?_
        exact ⟨rfl, v5, by rw [HN.out, HE.out]; have h9 := G6.out.P; simp only [List.append_assoc] at h9; exact h9, G6.out.M⟩
      · rw [if_neg e1] at HE
        have e1' : ¬ ((g.f1.length : Int) = 0) := by omega
        have e1b : ((g.f1.length : Int) == 0) = false := beq_eq_false_iff_ne.2 e1'
        go_wp2_with fail
        refine (points_calls w0 w4 gp O co os (k + 1) v4 ((out ++ bitB le) ++ P32 (u32 g.f0) le) A1 c1 g.f1 le G4.out.P (fun W' _ hb _ => Kd.C_below H1.out hb) (by simp only [List.length_append, P32_len, bitB, List.length_singleton]; omega)).mono ?_
        rintro e w5 ⟨rfl, v5, hp5, hm5⟩
        have G5 := Aside0.mk (G4.out.step hp5 hm5)
        clear z0_ z1_ z2_ z3_ G4 hp5 hm5
        go_wp2_with fail
        refine bodyPost_end (results_none rfl _ _ _) rfl ?_
        exact ⟨rfl, v5, by rw [HN.out, HE.out]; have h9 := G5.out.P; simp only [List.append_assoc] at h9; exact h9, G5.out.M⟩
    have k1' : (g.f0 == 1) = false := beq_eq_false_iff_ne.2 k1
    rw [if_neg k1] at HE
    by_cases k2 : g.f0 = 2
    · have k2' : (g.f0 == 2) = true := by rw [k2]; rfl
      rw [if_pos k2] at HE
      rw [if_pos (.inr (.inl k2))] at HN
      go_wp2_with fail
      refine (word_calls w0 w4 gp O co os (k + 1) v4 ((out ++ bitB le) ++ P32 (u32 g.f0) le) (g.f1.length : Int) le G4.out.P (by simp only [List.length_append, P32_len, bitB, List.length_singleton]; omega)).mono ?_
      rintro e w5 ⟨rfl, v5, hp5, hm5⟩
      have G5 := Aside0.mk (G4.out.step hp5 hm5)
      clear z0_ z1_ z2_ z3_ G4 hp5 hm5
      have z0_ : w5.cell? ⟨gb, 0, none⟩ = some (.int .i64 g.f0) := (blk_cell G5.out.b 0).trans rfl
      have z1_ : w5.cell? ⟨gb, 1, none⟩ = some (.slice A1 g.f1.length c1) := (blk_cell G5.out.b 1).trans rfl
      have z2_ : w5.cell? ⟨gb, 2, none⟩ = some (.slice A2 g.f2.length c2) := (blk_cell G5.out.b 2).trans rfl
      have z3_ : w5.cell? ⟨gb, 3, none⟩ = some (.slice A3 g.f3.length c3) := (blk_cell G5.out.b 3).trans rfl
      go_wp2_with fail
      refine (points_calls w0 w5 gp O co os (k + 1) v5 (((out ++ bitB le) ++ P32 (u32 g.f0) le) ++ P32 (u32 g.f1.length) le) A1 c1 g.f1 le G5.out.P (fun W' _ hb _ => Kd.C_below H1.out hb) (by simp only [List.length_append, P32_len, bitB, List.length_singleton]; omega)).mono ?_
      rintro e w6 ⟨rfl, v6, hp6, hm6⟩
      have G6 := Aside0.mk (G5.out.step hp6 hm6)
      clear z0_ z1_ z2_ z3_ G5 hp6 hm6
      go_wp2_with fail
      refine bodyPost_end (results_none rfl _ _ _) rfl ?_
      exact ⟨rfl, v6, by rw [HN.out, HE.out]; have h9 := G6.out.P; simp only [List.append_assoc] at h9; exact h9, G6.out.M⟩
    have k2' : (g.f0 == 2) = false := beq_eq_false_iff_ne.2 k2
    rw [if_neg k2] at HE
    by_cases k3 : g.f0 = 3
    · have k3' : (g.f0 == 3) = true := by rw [k3]; rfl
      rw [if_pos k3] at HE
      rw [if_pos (.inr (.inr k3))] at HN
      go_wp2_with fail
      refine (word_calls w0 w4 gp O co os (k + 1) v4 ((out ++ bitB le) ++ P32 (u32 g.f0) le) (g.f2.length : Int) le G4.out.P (by simp only [List.length_append, P32_len, bitB, List.length_singleton]; omega)).mono ?_
      rintro e w5 ⟨rfl, v5, hp5, hm5⟩
      have G5 := Aside0.mk (G4.out.step hp5 hm5)
      clear z0_ z1_ z2_ z3_ G4 hp5 hm5
      have z0_ : w5.cell? ⟨gb, 0, none⟩ = some (.int .i64 g.f0) := (blk_cell G5.out.b 0).trans rfl
      have z1_ : w5.cell? ⟨gb, 1, none⟩ = some (.slice A1 g.f1.length c1) := (blk_cell G5.out.b 1).trans rfl
      have z2_ : w5.cell? ⟨gb, 2, none⟩ = some (.slice A2 g.f2.length c2) := (blk_cell G5.out.b 2).trans rfl
      have z3_ : w5.cell? ⟨gb, 3, none⟩ = some (.slice A3 g.f3.length c3) := (blk_cell G5.out.b 3).trans rfl
      go_wp2_with fail
      obtain ⟨o5, ho5⟩ : ∃ y, y = ((out ++ bitB le) ++ P32 (u32 g.f0) le) ++ P32 (IntKind.u32.wrap (g.f2.length : Int)) le := ⟨_, rfl⟩
      have ho5l : o5.length = out.length + 9 := by rw [ho5]; simp only [List.length_append, P32_len, bitB, List.length_singleton]
      have HO5 := Aside0.mk ho5
      rw [← ho5] at G5
      have HO5L := Aside0.mk ho5l
      clear z0_ z1_ z2_ z3_ ho5 ho5l
      go_loopg [6, 94] g.f2.length (fun kq x6 ii wr => ∃ (i : Nat) (vi : Value), ii = .int .i64 (i : Int) ∧ i + kq = g.f2.length ∧ Aside0 (Gs 71 cfP w0 W wr gp O co os (k + 1) vo vi (o5 ++ ringsB le (g.f2.take i)) gb #[.int .i64 g.f0, .slice A1 g.f1.length c1, .slice A2 g.f2.length c2, .slice A3 g.f3.length c3]))
      case atStart => exact ⟨0, v5, rfl, by omega, ⟨by simpa [ringsB] using G5.out⟩⟩
      case round =>
        clear G5
        obtain ⟨i, vi, rfl, hi, G5⟩ := hrel
        cases gk with
        | zero =>
          have hlt : ¬ ((i : Int) < (g.f2.length : Int)) := by omega
          obtain rfl : i = g.f2.length := by omega
          go_wp2_with fail
          refine bodyPost_end (results_none rfl _ _ _) rfl ?_
          exact ⟨rfl, vi, by rw [HN.out, HE.out]; have h9 := G5.out.P; rw [List.take_length, HO5.out] at h9; simp only [List.append_assoc] at h9; exact h9, G5.out.M⟩
        | succ kq =>
          have hlt : (i : Int) < (g.f2.length : Int) := by omega
          have hil : i < g.f2.length := by omega
          obtain ⟨ad, A4, c4, e4, p0, hc4, hr4⟩ := at_L2 H2.out (i : Int) (by omega) (by omega)
          have hrd : rd_L2 g.f2 (i : Int) = g.f2[i] := by simp [rd_L2, List.getD_eq_getElem?_getD, List.getElem?_eq_getElem hil]
          rw [hrd, Int.toNat_natCast] at p0
          rw [hrd] at hc4 hr4
          subst e4
          have p0' := cell_below G5.out.P.K p0
          have HTK := Aside0.mk (List.take_succ_eq_append_getElem hil)
          have hfl : (g.f2.take i).flatten.length + g.f2[i].length ≤ g.f2.flatten.length := by
            have h9 := congrArg (fun l => l.flatten.length) (List.take_append_drop i g.f2)
            simp only [List.flatten_append, List.length_append] at h9
            rw [List.drop_eq_getElem_cons hil, List.flatten_cons, List.length_append] at h9
            omega
          have hrl := ringsB_len le (g.f2.take i)
          have htl : (g.f2.take i).length = i := by rw [List.length_take]; omega
          obtain ⟨r, hr⟩ : ∃ r, r = g.f2[i] := ⟨_, rfl⟩
          rw [← hr] at p0' hc4 hr4 HTK hfl
          have HR4 := Aside0.mk hr4
          have HLN := Aside0.mk (show (o5 ++ ringsB le (g.f2.take i)).length + 4 + 16 * r.length ≤ 70368744177664 by rw [List.length_append, HO5L.out]; omega)
          clear hrd p0 hr hr4 hrl htl hfl
          go_wp2_with fail
          refine (word_calls w0 wr gp O co os (k + 1) vi (o5 ++ ringsB le (g.f2.take i)) (r.length : Int) le G5.out.P (by have := HLN.out; omega)).mono ?_
          rintro e w6 ⟨rfl, v6, hp6, hm6⟩
          have G6 := Aside0.mk (G5.out.step hp6 hm6)
          clear G5 hp6 hm6
          go_wp2_with fail
          refine (points_calls w0 w6 gp O co os (k + 1) v6 ((o5 ++ ringsB le (g.f2.take i)) ++ P32 (u32 r.length) le) A4 c4 r le G6.out.P (fun W' _ hb _ => Kd.C_below HR4.out hb) (by rw [List.length_append, P32_len]; exact HLN.out)).mono ?_
          rintro e w7 ⟨rfl, v7, hp7, hm7⟩
          have G7 := Aside0.mk (G6.out.step hp7 hm7)
          clear G6 hp7 hm7
          go_wp2_with fail
          go_roundg kq
          case measure => omega
          case rel => exact ⟨i + 1, v7, by go_num, by omega, ⟨by have h9 := G7.out; rw [HTK.out, ringsB_snoc]; simp only [List.append_assoc] at h9 ⊢; exact h9⟩⟩
    have k3' : (g.f0 == 3) = false := beq_eq_false_iff_ne.2 k3
    rw [if_neg k3] at HE
    rw [if_neg (by rintro (h | h | h) <;> contradiction)] at HN
    go_wp2_with fail
    refine (word_calls w0 w4 gp O co os (k + 1) v4 ((out ++ bitB le) ++ P32 (u32 g.f0) le) (g.f3.length : Int) le G4.out.P (by simp only [List.length_append, P32_len, bitB, List.length_singleton]; omega)).mono ?_
    rintro e w5 ⟨rfl, v5, hp5, hm5⟩
    have G5 := Aside0.mk (G4.out.step hp5 hm5)
    clear z0_ z1_ z2_ z3_ G4 hp5 hm5
    have z0_ : w5.cell? ⟨gb, 0, none⟩ = some (.int .i64 g.f0) := (blk_cell G5.out.b 0).trans rfl
    have z1_ : w5.cell? ⟨gb, 1, none⟩ = some (.slice A1 g.f1.length c1) := (blk_cell G5.out.b 1).trans rfl
    have z2_ : w5.cell? ⟨gb, 2, none⟩ = some (.slice A2 g.f2.length c2) := (blk_cell G5.out.b 2).trans rfl
    have z3_ : w5.cell? ⟨gb, 3, none⟩ = some (.slice A3 g.f3.length c3) := (blk_cell G5.out.b 3).trans rfl
    go_wp2_with fail
    obtain ⟨o5, ho5⟩ : ∃ y, y = ((out ++ bitB le) ++ P32 (u32 g.f0) le) ++ P32 (IntKind.u32.wrap (g.f3.length : Int)) le := ⟨_, rfl⟩
    have ho5l : o5.length = out.length + 9 := by rw [ho5]; simp only [List.length_append, P32_len, bitB, List.length_singleton]
    have HO5 := Aside0.mk ho5
    rw [← ho5] at G5
    have HO5L := Aside0.mk ho5l
    clear z0_ z1_ z2_ z3_ ho5 ho5l
    have hb3 : g.f3.length ≤ 70368744177664 := by have := bulks_len g.f3; omega
    go_loopg [8, 46] g.f3.length (fun kq x8 ii wr => ∃ (i : Nat) (vi : Value), ii = .int .i64 (i : Int) ∧ i + kq = g.f3.length ∧ Aside0 (Gs 71 cfP w0 W wr gp O co os (k + 1 + cntL (g.f3.take i)) vo vi (o5 ++ partsB os (g.f3.take i) (k + 1)) gb #[.int .i64 g.f0, .slice A1 g.f1.length c1, .slice A2 g.f2.length c2, .slice A3 g.f3.length c3]))
    case atStart => exact ⟨0, v5, rfl, by omega, ⟨by simpa [partsB, cntL] using G5.out⟩⟩
    case round =>
      clear G5
      obtain ⟨i, vi, rfl, hi, G5⟩ := hrel
      cases gk with
      | zero =>
        have hlt : ¬ ((i : Int) < (g.f3.length : Int)) := by omega
        obtain rfl : i = g.f3.length := by omega
        go_wp2_with fail
        refine bodyPost_end (results_none rfl _ _ _) rfl ?_
        exact ⟨rfl, vi, by rw [HN.out, HE.out, ← Nat.add_assoc]; have h9 := G5.out.P; rw [List.take_length, HO5.out] at h9; simp only [List.append_assoc] at h9; exact h9, G5.out.M⟩
      | succ kq =>
        have hlt : (i : Int) < (g.f3.length : Int) := by omega
        have hil : i < g.f3.length := by omega
        obtain ⟨a3, B1, d1, B2, d2, B3, d3, ea, p0, p1, p2, p3, m1, q1, m2, q2, m3, q3⟩ := at_Ge H3.out i (by omega) (by omega)
        subst ea
        rw [rd_Ge_at _ _ hil] at p0 p1 p2 p3 q1 q2 q3 m1 m2 m3
        rw [Int.toNat_natCast] at p0 p1 p2 p3
        have HG := Aside0.mk (show IsG w0 (.agg #[.int .i64 (g.f3[i]).f0, .slice B1 (g.f3[i]).f1.length d1, .slice B2 (g.f3[i]).f2.length d2, .slice B3 (g.f3[i]).f3.length d3]) g.f3[i] from ⟨B1, d1, B2, d2, B3, d3, rfl, m1, q1, m2, q2, m3, q3⟩)
        have p0' := cell_below G5.out.P.K p0
        have p1' := cell_below G5.out.P.K p1
        have p2' := cell_below G5.out.P.K p2
        have p3' := cell_below G5.out.P.K p3
        have HTK := Aside0.mk (List.take_succ_eq_append_getElem hil)
        have hbt : bulks (g.f3.take i) + (g.f3[i]).bulk ≤ bulks g.f3 := by
          have h9 := bulks_take g.f3 (i + 1)
          rw [HTK.out, bulks_app] at h9
          simp only [bulks] at h9
          omega
        obtain ⟨c, hc⟩ : ∃ c, c = g.f3[i] := ⟨_, rfl⟩
        rw [← hc] at p0' p1' p2' p3' HG HTK hbt
        have hpl := partsB_le os (g.f3.take i) (k + 1)
        have HLN := Aside0.mk (show (o5 ++ partsB os (g.f3.take i) (k + 1)).length + 32 * c.bulk ≤ 70368744177664 ∧ k + 1 + cntL (g.f3.take i) + c.bulk ≤ 1152921504606846976 ∧ c.bulk ≤ n from by
          rw [List.length_append, HO5L.out]
          omega)
        clear hc p0 p1 p2 p3 q1 q2 q3 m1 m2 m3 hbt hpl
        go_wp2_with fail
        have G6 := Aside0.mk (G5.out.below (below_alloc (Below.refl _ _) (.cells #[.int .i64 c.f0, .slice B1 c.f1.length d1, .slice B2 c.f2.length d2, .slice B3 c.f3.length d3] 28)))
        clear G5 p0' p1' p2' p3'
        generalize wr.alloc (.cells #[.int .i64 c.f0, .slice B1 c.f1.length d1, .slice B2 c.f2.length d2, .slice B3 c.f3.length d3] 28) = wl at G6 ⊢
        refine (IH.out c w0 wl gp O co os (k + 1 + cntL (g.f3.take i)) vi (o5 ++ partsB os (g.f3.take i) (k + 1)) _ HLN.out.2.2 G6.out.P HG.out HLN.out.1 HLN.out.2.1 hos).mono ?_
        rintro e w7 ⟨rfl, v7, hp7, hm7⟩
        have G7 := Aside0.mk (G6.out.step hp7 hm7)
        clear G6 hp7 hm7
        go_wp2_with fail
        go_roundg kq
        case measure => omega
        case rel => exact ⟨i + 1, v7, by go_num, by omega, ⟨by have h9 := G7.out; rw [HTK.out, partsB_snoc, cntL_snoc]; simp only [List.append_assoc, Nat.add_assoc] at h9 ⊢; exact h9⟩⟩
end Go.Proofs.Ytiiolhnpnlmkjaa.Tree
namespace Go.Proofs.Ytiiolhnpnlmkjaa.Tree
open Go.RowKit Go.Proofs.YtiiolhnpnlmkjaaW.PrintWords Go.Proofs.YtiiolhnpnlmkjaaW.PrintLast Go.Proofs.YtiiolhnpnlmkjaaW.PrintMore
/-- A row has grown, perhaps in a new block; no other block that lay there was written. -/
structure OnlyRow (W W' : World) (v v' : Value) : Prop where
  size : W.heap.size ≤ W'.heap.size
  same : ∀ k, k < W.heap.size → some k ≠ v.ownBlock → W'.heap[k]? = W.heap[k]?
  new : ∀ k, v'.ownBlock = some k → v.ownBlock = some k ∨ W.heap.size ≤ k
theorem OnlyRow.trans {W W' W2 : World} {v v' v2 : Value} (h : OnlyRow W W' v v') (k : OnlyRow W' W2 v' v2) : OnlyRow W W2 v v2 :=
  ⟨Nat.le_trans h.size k.size, fun i hi hne => (k.same i (Nat.lt_of_lt_of_le hi h.size) (fun e => by
      rcases h.new i e.symm with h1 | h1
      · exact hne h1.symm
      · omega)).trans (h.same i hi hne), fun i hi => by
      rcases k.new i hi with h1 | h1
      · exact h.new i h1
      · exact .inr (Nat.le_trans h.size h1)⟩
theorem OnlyRow.below {W W' : World} (h : Below W.heap.size W W') (v : Value) : OnlyRow W W' v v := ⟨h.size, fun k hk _ => h.block k hk, fun k hk => .inl hk⟩
theorem OnlyRow.grown {W W' : World} {v v' : Value} (hg : W.grownBy W' v.ownBlock) (hat : v'.ownBlock = v.ownBlock ∨ ∃ b, v'.ownBlock = some b ∧ W.heap.size ≤ b) : OnlyRow W W' v v' :=
  ⟨hg.size, fun k hk hne => hg.block k hk hne, fun k hk => by
    rcases hat with h | ⟨b, h, hb⟩
    · exact .inl (h ▸ hk)
    · rw [h] at hk; cases hk; exact .inr hb⟩
theorem OnlyRow.keep {W W' : World} {v v' : Value} (h : OnlyRow W W' v v') {k : Nat} {o : Obj} (hk : W.heap[k]? = some o) (hne : some k ≠ v.ownBlock) : W'.heap[k]? = some o := (h.same k (blk_lt hk) hne).trans hk
/-- An item of such a list, as it lies there. -/
def ItemAt (w0 W : World) (ad : Addr) (x : It) : Prop := ∃ A1 c1 A2 c2 A3 c3, (W.cell? ad = some (.int .i64 x.f0.f0) ∧ W.cell? ⟨ad.block, ad.off + 1, none⟩ = some (.slice A1 x.f0.f1.length c1) ∧ W.cell? ⟨ad.block, ad.off + 2, none⟩ = some (.slice A2 x.f0.f2.length c2) ∧ W.cell? ⟨ad.block, ad.off + 3, none⟩ = some (.slice A3 x.f0.f3.length c3) ∧
  W.cell? ⟨ad.block, ad.off + 4, none⟩ = some (.int .i64 x.f1) ∧ W.cell? ⟨ad.block, ad.off + 5, none⟩ = some (.int .i64 x.f2)) ∧ IsG w0 (.agg #[.int .i64 x.f0.f0, .slice A1 x.f0.f1.length c1, .slice A2 x.f0.f2.length c2, .slice A3 x.f0.f3.length c3]) x.f0
theorem ItemAt.below {w0 W W1 : World} {ad : Addr} {x : It} (h : ItemAt w0 W ad x) (hb : Below W.heap.size W W1) : ItemAt w0 W1 ad x := by
  obtain ⟨A1, c1, A2, c2, A3, c3, ⟨e0, e1, e2, e3, e4, e5⟩, r⟩ := h
  exact ⟨A1, c1, A2, c2, A3, c3, ⟨cell_below hb e0, cell_below hb e1, cell_below hb e2, cell_below hb e3, cell_below hb e4, cell_below hb e5⟩, r⟩
/-- The items that the reference looks at. -/
def seen (g : Ge) : List It := (nodes g 1 0).take 65538
theorem and2047_le (y : Int) : 0 ≤ Go.bits .and .u64 y 2047 ∧ Go.bits .and .u64 y 2047 ≤ 2047 := by
  have e : Go.bits .and .u64 y 2047 = IntKind.u64.wrap ((BitVec.ofInt 64 y &&& BitVec.ofInt 64 2047).toNat : Int) := rfl
  rw [e, BitVec.toNat_and, IntKind.wrap_u64]
  have h : (BitVec.ofInt 64 y).toNat &&& (BitVec.ofInt 64 2047).toNat ≤ 2047 := by
    have h2 : (BitVec.ofInt 64 2047).toNat = 2047 := by decide
    rw [h2]
    exact Nat.and_le_right
  omega
theorem expo_le (x : Int) : 0 ≤ expo x ∧ expo x ≤ 2047 := by
  have h := and2047_le (x / 4503599627370496)
  unfold expo
  unfold wrap64
  omega
theorem finC_iff (x : Int) : finC classOf x = decide (expo x ≠ 2047) := by
  have h := expo_le x
  unfold finC classOf
  rw [decide_eq_decide]
  constructor
  · intro h1 h2
    rw [h2] at h1
    simp at h1
    split at h1 <;> omega
  · intro h1
    split
    · split <;> omega
    · rw [if_pos (by omega)]; omega
def kindB (k : Int) : Bool := decide (1 ≤ k) && decide (k ≤ 7)
def lacksB (g : Ge) : Bool := (decide (0 < g.f1.length) && decide (2 < g.f0)) || ((decide (0 < g.f2.length) && decide (g.f0 ≠ 3)) || (decide (0 < g.f3.length) && decide (g.f0 < 4)))
def shapedB (x : It) : Bool := kindB x.f0.f0 && (fitsB x.f0.f0 x.f2 && (!lacksB x.f0 && ((x.f0.f2.all fun r => !r.isEmpty) && (decide (x.f0.f0 ≠ 1) || decide (x.f0.f1.length ≤ 1)))))
theorem shaped_eq (x : It) : shapedB x = (listsB x.f0 && fitsB x.f0.f0 x.f2) := by
  obtain ⟨⟨k, l, r, p⟩, lv, o⟩ := x
  unfold shapedB listsB kindB lacksB
  dsimp only
  have hR : r.length = 0 → (r.all fun r => !r.isEmpty) = true := by
    intro h
    rw [List.length_eq_zero_iff.1 h]
    rfl
  generalize (r.all fun r => !r.isEmpty) = R at hR ⊢
  generalize fitsB k o = F
  generalize l.length = a at *
  generalize r.length = b at *
  generalize p.length = c at *
  cases F with
  | false => simp
  | true =>
    rw [Bool.eq_iff_iff]
    cases R with
    | false =>
      have hb : b ≠ 0 := fun e => by cases hR e
      by_cases h1 : k = 1
      · simp [h1, hb]
      · by_cases h2 : k = 2
        · simp [h2, hb]
        · by_cases h3 : k = 3
          · simp [h3]
          · by_cases h4 : k = 4 ∨ k = 5 ∨ k = 6 ∨ k = 7
            · rw [if_neg h1, if_neg h2, if_neg h3, if_pos h4]; simp [hb]
            · rw [if_neg h1, if_neg h2, if_neg h3, if_neg h4]; simp
    | true =>
      by_cases h1 : k = 1
      · subst h1; simp <;> omega
      · by_cases h2 : k = 2
        · subst h2; simp <;> omega
        · by_cases h3 : k = 3
          · subst h3; simp <;> omega
          · by_cases h4 : k = 4 ∨ k = 5 ∨ k = 6 ∨ k = 7
            · rw [if_neg h1, if_neg h2, if_neg h3, if_pos h4]; simp <;> omega
            · rw [if_neg h1, if_neg h2, if_neg h3, if_neg h4]; simp <;> omega
end Go.Proofs.Ytiiolhnpnlmkjaa.Tree
