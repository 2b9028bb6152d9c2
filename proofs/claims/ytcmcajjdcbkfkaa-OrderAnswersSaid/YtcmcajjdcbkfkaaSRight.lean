/- Proved: a call of the Go function order.Right, with any list of int, answers whether each number from 0 on is there once, and changes nothing that was there; condition: a list shorter than 2^44 of numbers of 64 bits, which the answer of order_Right.f says. -/
import Derived.Test.YtcmcajjdcbkfkaaSIdx
import Derived.Maps.OwnSet
import Derived.Maps.Views
namespace Go.Proofs.Ytcmcajjdcbkfkaa.P
open Go.RowKit Go.Maps Go.Proofs.YtcmcajjdcbkfkaaW.PrintWords Go.Proofs.YtcmcajjdcbkfkaaW.PrintLast
set_option linter.unusedVariables false
set_option linter.unusedSimpArgs false

/-- Is each number there once? -/
def rightL (l : List Int) : Bool := decide (l.Nodup) && l.all fun x => decide (0 ≤ x ∧ x < (l.length : Int))
def order_Right.f (l0 : List Int) : Option Bool := if l0.length < 17592186044416 ∧ (l0.all fun x => (Lit.int .i64 x).wf) = true then some (rightL l0) else none

def inR (n : Nat) (x : Int) : Bool := decide (0 ≤ x ∧ x < (n : Int))
def seenD (n : Nat) (m : DataW Unit) (l : List Int) : DataW Unit := l.foldl (fun m x => m.put (.int .i64 x) (.lit (.bool (inR n x)))) m
theorem key_ok (x : Int) : WideAt.IsKeyLit (.int .i64 x) := trivial
theorem seen_tidy (n : Nat) : ∀ (l : List Int) (m : DataW Unit), Tidy m → Tidy (seenD n m l)
  | [], _, h => h
  | x :: l, m, h => seen_tidy n l _ (h.put (key_ok x) _)
theorem seen_snoc (n : Nat) (m : DataW Unit) (l : List Int) (x : Int) : seenD n m (l ++ [x]) = (seenD n m l).put (.int .i64 x) (.lit (.bool (inR n x))) := by
  simp [seenD, List.foldl_append]
theorem key_ne {x y : Int} (h : x ≠ y) : Lit.int .i64 x ≠ Lit.int .i64 y := fun e => h (by injection e)
theorem seen_at (n : Nat) (x : Int) (d : DataW Unit) : ∀ (l : List Int) (m : DataW Unit), IsMap m → (seenD n m l).atKey (.int .i64 x) d = if x ∈ l then .lit (.bool (inR n x)) else m.atKey (.int .i64 x) d
  | [], m, h => by simp [seenD]
  | y :: l, m, h => by
    have hm : IsMap (m.put (.int .i64 y) (.lit (.bool (inR n y)))) := h.put _ _
    show (seenD n (m.put (.int .i64 y) (.lit (.bool (inR n y)))) l).atKey (.int .i64 x) d = _
    rw [seen_at n x d l _ hm]
    by_cases hl : x ∈ l
    · rw [if_pos hl, if_pos (by simp [hl])]
    · rw [if_neg hl]
      by_cases e : x = y
      · subst e
        rw [if_pos (by simp), atKey_put_same h (key_ok x)]
      · rw [if_neg (by simp [hl, e]), atKey_put_other (key_ne e)]
theorem seen_size (n : Nat) : ∀ (l : List Int) (m : DataW Unit), Tidy m →
    Maps.size (seenD n m l) ≤ Maps.size m + l.length ∧ (Maps.size (seenD n m l) = Maps.size m + l.length ↔ l.Nodup ∧ ∀ x ∈ l, Maps.has m (.int .i64 x) = false)
  | [], m, h => by simp [seenD]
  | y :: l, m, h => by
    have hm : Tidy (m.put (.int .i64 y) (.lit (.bool (inR n y)))) := h.put (key_ok y) _
    obtain ⟨h1, h2⟩ := seen_size n l _ hm
    have e : seenD n m (y :: l) = seenD n (m.put (.int .i64 y) (.lit (.bool (inR n y)))) l := rfl
    rw [e]
    have hs := size_put h (.lit (.bool (inR n y))) (k := .int .i64 y)
    have hh : ∀ x, Maps.has (m.put (.int .i64 y) (.lit (.bool (inR n y)))) (.int .i64 x) = (decide (x = y) || Maps.has m (.int .i64 x)) := fun x => by
      by_cases ex : x = y
      · subst ex
        rw [has_put_same h.isMap (key_ok x)]
        simp
      · rw [has_put_other (key_ne ex)]
        simp [ex]
    cases hy : Maps.has m (.int .i64 y) with
    | true =>
      rw [hy, if_pos rfl] at hs
      rw [hs] at h1 h2
      simp only [List.length_cons]
      refine ⟨by omega, ?_⟩
      constructor
      · intro he
        omega
      · rintro ⟨_, hx⟩
        have := hx y (by simp)
        rw [hy] at this
        cases this
    | false =>
      rw [hy, if_neg (by decide)] at hs
      rw [hs] at h1 h2
      simp only [List.length_cons, List.nodup_cons, List.mem_cons, forall_eq_or_imp]
      refine ⟨by omega, ?_⟩
      have e2 : (Maps.size (seenD n (m.put (.int .i64 y) (.lit (.bool (inR n y)))) l) = Maps.size m + (l.length + 1)) ↔ (Maps.size (seenD n (m.put (.int .i64 y) (.lit (.bool (inR n y)))) l) = Maps.size m + 1 + l.length) := by omega
      rw [e2, h2]
      constructor
      · rintro ⟨hn, hx⟩
        refine ⟨⟨fun hm => ?_, hn⟩, hy, fun x hxl => ?_⟩
        · have := hx y hm
          rw [hh] at this
          simp at this
        · have := hx x hxl
          rw [hh] at this
          simp only [Bool.or_eq_false_iff] at this
          exact this.2
      · rintro ⟨⟨hm, hn⟩, _, hx⟩
        refine ⟨hn, fun x hxl => ?_⟩
        rw [hh, hx x hxl]
        have : x ≠ y := fun e => hm (e ▸ hxl)
        simp [this]
theorem seen_all (l : List Int) : Maps.size (seenD l.length (.map []) l) = l.length ↔ l.Nodup := by
  have := (seen_size l.length l (.map []) tidy_empty).2
  have h0 : Maps.size (.map [] : DataW Unit) = 0 := rfl
  rw [h0, Nat.zero_add] at this
  rw [this]
  constructor
  · exact fun h => h.1
  · exact fun h => ⟨h, fun x _ => rfl⟩
theorem seen_le (l : List Int) (n : Nat) : Maps.size (seenD n (.map []) l) ≤ l.length := by
  have := (seen_size n l (.map []) tidy_empty).1
  have h0 : Maps.size (.map [] : DataW Unit) = 0 := rfl
  omega

theorem bool_inv {P : Program} {e : TypeId} (he : P.underlying e = some .bool) {v : Value} {z : DataW Unit × List MemPlace} (h : plainElem P e v = some z) : ∃ b, v = .bool b ∧ z = (.lit (.bool b), []) := by
  unfold plainElem at h
  rw [he] at h
  cases v <;> simp at h
  exact ⟨_, rfl, h.symm⟩
theorem zero_bool (w : World) : (zeroValue 4).run Try.prog w = .ok (.bool false) w := by kernel_rfl
theorem look_bool {w : World} {b n : Nat} {D : DataW Unit} (h : w.ownsMap Try.prog 3 (plainElem Try.prog 4) b n D) (x : Int) (hx : (Lit.int .i64 x).wf = true) :
    ∃ c, (Instr.lookup 39 (.map (some b)) (.int .i64 x) false).run Try.prog w = .ok (.bool c) w ∧ D.atKey (.int .i64 x) (.lit (.bool false)) = .lit (.bool c) := by
  obtain ⟨v, ps, hrun, hv⟩ := h.lookup (int_keyed Try.underlying3) Try.underlying39 (zero_bool w) (plainElem_bool Try.underlying4 false) (keyOf_int_mk Try.underlying3 hx)
  obtain ⟨c, rfl, hc⟩ := bool_inv Try.underlying4 hv
  simp only [Prod.mk.injEq] at hc
  exact ⟨c, hrun, hc.1⟩

theorem seen_test {w : World} {b c n : Nat} {D : DataW Unit} (x : Int) (hx : (Lit.int .i64 x).wf = true) (h : w.ownsMap Try.prog 3 (plainElem Try.prog 4) b n D) (hc : w.cell? ⟨c, 0, none⟩ = some (.map (some b))) (v : Bool) (hv : D.atKey (.int .i64 x) (.lit (.bool false)) = .lit (.bool v)) :
    Calls Try.prog 23 #[.int .i64 x, .pointer (some ⟨c, 0, none⟩)] w fun e w' => e = .returned (.bool (!v)) ∧ w' = w := by
  obtain ⟨u, hrun, hat⟩ := look_bool h x hx
  rw [hv] at hat
  injection hat with hat
  injection hat with hat
  subst hat
  clear hv
  go_enter Try.func23, Try.ntmps23
  go_wp2
  go_ret
  exact ⟨rfl, rfl⟩
theorem idx_none (p : Int → Bool) : ∀ (l : List Int) (i : Nat), (0 ≤ idxFrom p i l) ↔ l.any p = true
  | [], i => by simp [idxFrom]
  | x :: l, i => by
    simp only [idxFrom, List.any_cons]
    by_cases h : p x = true
    · rw [if_pos h, h]
      simp
    · rw [if_neg h, idx_none p l (i + 1)]
      simp [h]

theorem right_less (n i : Nat) (h : i < n) : n - (intOf (.int .i64 ((i : Int) + 1))).toNat < n - (intOf (.int .i64 (i : Int))).toNat := by
  show n - ((i : Int) + 1).toNat < n - ((i : Int)).toNat
  omega
theorem right_cell (w : World) (o o' : Obj) : ((w.alloc o).alloc o').heap[w.heap.size + 1]? = some o' := by
  have h := heap_alloc_new (w.alloc o) o'
  have hs : (w.alloc o).heap.size = w.heap.size + 1 := by show (w.heap.push o).size = _; simp
  rwa [hs] at h

set_option maxHeartbeats 4000000 in
set_option maxRecDepth 100000 in
theorem order_Right.calls (A0 : Option Addr) (c0 : Nat) (l0 : List Int) (r : Bool) (w : World) (hr0 : Kd.C (Kd.int .i64) w A0 l0.length l0) (hc0 : l0.length ≤ c0) (h : order_Right.f l0 = some r) :
    Calls Try.prog 13 #[.slice A0 l0.length c0] w fun e w' => e = .returned (.bool r) ∧ Below w.heap.size w w' := by
  have H0 : l0.length < 17592186044416 ∧ (l0.all fun x => (Lit.int .i64 x).wf) = true := by
    unfold order_Right.f at h
    by_cases hl : l0.length < 17592186044416 ∧ (l0.all fun x => (Lit.int .i64 x).wf) = true
    · exact hl
    · rw [if_neg hl] at h
      cases h
  have HE : Aside0 (rightL l0 = r) := by
    refine ⟨?_⟩
    unfold order_Right.f at h
    rw [if_pos H0] at h
    exact Option.some.inj h
  clear h
  have HR0 := Aside0.mk hr0
  have HL := Aside0.mk H0.1
  have HW : Aside0 (∀ x ∈ l0, (Lit.int .i64 x).wf = true) := ⟨List.all_eq_true.1 H0.2⟩
  clear hr0 hc0 H0
  have hmm := @run_makeMap Try.prog
  go_enter Try.func13, Try.ntmps13
  go_wp2
  go_loopw [9] (fun v wr => ∃ i : Nat, v = .int .i64 (i : Int) ∧ i ≤ l0.length ∧ wr.ownsMap Try.prog 3 (plainElem Try.prog 4) w.heap.size i (seenD l0.length (.map []) (l0.take i)) ∧ wr.heap[w.heap.size + 1]? = some (.cells #[.map (some w.heap.size)] 39 (0, 0)) ∧ Below w.heap.size w wr) (fun v wr => l0.length - (intOf v).toNat)
  case atStart => exact ⟨0, rfl, by omega, (World.ownsMap_made w _ _ _).alloc _, right_cell _ _ _, below_alloc (below_alloc (Below.refl _ _) _) _⟩
  case round =>
    obtain ⟨i, rfl, hi, hown, hcell, hB⟩ := hrel
    have hc1 : wr.cell? ⟨w.heap.size + 1, 0, none⟩ = some (.map (some w.heap.size)) := blk_cell hcell 0
    have HCELL := Aside0.mk hcell
    clear hcell
    by_cases h : i < l0.length
    · obtain ⟨ad, e, hx⟩ := Kd.at_int (Kd.C_below HR0.out hB) (i : Int) (by omega) (by omega)
      cases e
      rw [Int.toNat_natCast] at hx
      have hmem : rd l0 (i : Int) ∈ l0 := by
        unfold rd
        rw [Int.toNat_natCast, List.getD_eq_getElem?_getD, List.getElem?_eq_getElem h, Option.getD_some]
        exact List.getElem_mem _
      have htk : l0.take (i + 1) = l0.take i ++ [rd l0 (i : Int)] := by
        unfold rd
        rw [Int.toNat_natCast, List.getD_eq_getElem?_getD, List.getElem?_eq_getElem h, Option.getD_some]
        exact List.take_succ_eq_append_getElem h
      obtain ⟨x, hxe⟩ : ∃ x, rd l0 (i : Int) = x := ⟨_, rfl⟩
      rw [hxe] at hx hmem htk
      clear hxe
      have hwf := HW.out x hmem
      obtain ⟨c, hlk, hat⟩ := look_bool hown x hwf
      rw [seen_at _ _ _ _ _ isMap_empty] at hat
      have hcx : c = true → inR l0.length x = true := by
        intro hc
        subst hc
        by_cases hm : x ∈ l0.take i
        · rw [if_pos hm] at hat
          injection hat with hat
          injection hat with hat
        · rw [if_neg hm] at hat
          injection hat with hat
          injection hat with hat
          cases hat
      clear hat
      have HT := Aside0.mk htk
      have HX := Aside0.mk hcx
      have HO := Aside0.mk hown
      have HB := Aside0.mk hB
      have hk := keyOf_int_mk (P := Try.prog) Try.underlying3 hwf
      have h1 : decide ((i : Int) < (l0.length : Int)) = true := decide_eq_true (by omega)
      have h2 : ((0 : Int) ≤ (i : Int)) = True := eq_true (by omega)
      have h3 : ((i : Int) < (l0.length : Int)) = True := eq_true (by omega)
      clear htk hcx hown hB hmem
      have fin : ∀ (w1 : World), w1.ownsMap Try.prog 3 (plainElem Try.prog 4) w.heap.size (i + 1) ((seenD l0.length (.map []) (l0.take i)).put (.int .i64 x) (.lit (.bool (inR l0.length x)))) → wr.grownBy w1 (some w.heap.size) →
          w1.ownsMap Try.prog 3 (plainElem Try.prog 4) w.heap.size (i + 1) (seenD l0.length (.map []) (l0.take (i + 1))) ∧ w1.heap[w.heap.size + 1]? = some (.cells #[.map (some w.heap.size)] 39 (0, 0)) ∧ Below w.heap.size w w1 := fun w1 ho hg =>
        ⟨by rw [HT.out, seen_snoc]; exact ho, (hg.block (w.heap.size + 1) (blk_lt HCELL.out) (by simp)).trans HCELL.out, HB.out.grown hg HB.out.size (fun j hj => by cases hj; exact Nat.le_refl _)⟩
      have FIN := Aside0.mk fin
      clear fin
      have hlen : ((i : Nat) : Int) + 1 < 9223372036854775807 := by
        have := HL.out
        omega
      have hi0 : i < maxLen := by
        have := HL.out
        unfold maxLen
        omega
      have hpe := fun b => plainElem_bool (H := Unit) (P := Try.prog) Try.underlying4 b
      cases c with
      | true =>
        have e := HX.out rfl
        rw [e] at FIN
        go_wp2_with (first | (at_mapUpdate; refine wpList_mapUpdate_own _ rfl _ _ _ 39 rfl 3 4 (int_keyed Try.underlying3) Try.underlying39 _ w.heap.size i _ rfl HO.out hi0 _ _ _ rfl rfl hk _ [] (hpe _) ?_; intro w1 hown1 hgrow1; have hq := Aside0.mk (FIN.out w1 hown1 hgrow1); clear hown1 hgrow1) | go_in)
        exact ⟨⟨i + 1, rfl, by omega, hq.out.1, hq.out.2.1, hq.out.2.2⟩, right_less l0.length i h⟩
      | false =>
        by_cases hx0 : 0 ≤ x
        · by_cases hx1 : x < (l0.length : Int)
          · have e : inR l0.length x = true := decide_eq_true ⟨hx0, hx1⟩
            rw [e] at FIN
            have h4 : (0 ≤ x) = True := eq_true hx0
            have h5 : (x < (l0.length : Int)) = True := eq_true hx1
            clear e
            go_wp2_with (first | (at_mapUpdate; refine wpList_mapUpdate_own _ rfl _ _ _ 39 rfl 3 4 (int_keyed Try.underlying3) Try.underlying39 _ w.heap.size i _ rfl HO.out hi0 _ _ _ rfl rfl hk _ [] (hpe _) ?_; intro w1 hown1 hgrow1; have hq := Aside0.mk (FIN.out w1 hown1 hgrow1); clear hown1 hgrow1) | go_in)
            exact ⟨⟨i + 1, rfl, by omega, hq.out.1, hq.out.2.1, hq.out.2.2⟩, right_less l0.length i h⟩
          · have e : inR l0.length x = false := decide_eq_false (fun h => hx1 h.2)
            rw [e] at FIN
            have h4 : (0 ≤ x) = True := eq_true hx0
            have h5 : (x < (l0.length : Int)) = False := eq_false hx1
            clear e
            go_wp2_with (first | (at_mapUpdate; refine wpList_mapUpdate_own _ rfl _ _ _ 39 rfl 3 4 (int_keyed Try.underlying3) Try.underlying39 _ w.heap.size i _ rfl HO.out hi0 _ _ _ rfl rfl hk _ [] (hpe _) ?_; intro w1 hown1 hgrow1; have hq := Aside0.mk (FIN.out w1 hown1 hgrow1); clear hown1 hgrow1) | go_in)
            exact ⟨⟨i + 1, rfl, by omega, hq.out.1, hq.out.2.1, hq.out.2.2⟩, right_less l0.length i h⟩
        · have e : inR l0.length x = false := decide_eq_false (fun h => hx0 h.1)
          rw [e] at FIN
          have h4 : (0 ≤ x) = False := eq_false hx0
          clear e
          go_wp2_with (first | (at_mapUpdate; refine wpList_mapUpdate_own _ rfl _ _ _ 39 rfl 3 4 (int_keyed Try.underlying3) Try.underlying39 _ w.heap.size i _ rfl HO.out hi0 _ _ _ rfl rfl hk _ [] (hpe _) ?_; intro w1 hown1 hgrow1; have hq := Aside0.mk (FIN.out w1 hown1 hgrow1); clear hown1 hgrow1) | go_in)
          exact ⟨⟨i + 1, rfl, by omega, hq.out.1, hq.out.2.1, hq.out.2.2⟩, right_less l0.length i h⟩
    · have hn : i = l0.length := by omega
      subst hn
      rw [List.take_length] at hown
      have h1 : decide ((l0.length : Int) < (l0.length : Int)) = false := decide_eq_false (by omega)
      have hlen := hown.len (ty := 3) Try.underlying39
      have hsz := seen_all l0
      have hle := seen_le l0 l0.length
      obtain ⟨s, hs⟩ : ∃ s, Maps.size (seenD l0.length (.map []) l0) = s := ⟨_, rfl⟩
      rw [hs] at hlen hsz hle
      by_cases hq : s = l0.length
      · have hnd := hsz.1 hq
        subst hq
        have hct := contains_func.calls 23 #[.pointer (some ⟨w.heap.size + 1, 0, none⟩)] (fun x => !(inR l0.length x)) A0 c0 l0 wr (Kd.C_below HR0.out hB) (by have := HL.out; omega)
          (fun x hx n => (seen_test (w := wr.drewN n) x (HW.out x hx) hown hc1 (inR l0.length x) (by rw [seen_at _ _ _ _ _ isMap_empty, if_pos hx])).mono (fun e w' ⟨h1, h2⟩ => ⟨h1, 0, h2⟩)) (fun x W => by rfl)
        have hr : rightL l0 = !(decide (0 ≤ idxFrom (fun x => !(inR l0.length x)) 0 l0)) := by
          unfold rightL
          rw [decide_eq_true hnd, Bool.true_and]
          have hi := idx_none (fun x => !(inR l0.length x)) l0 0
          have e : decide (0 ≤ idxFrom (fun x => !(inR l0.length x)) 0 l0) = l0.any (fun x => !(inR l0.length x)) := by
            rw [Bool.eq_iff_iff, decide_eq_true_eq]
            exact hi
          rw [e, List.not_any_eq_all_not]
          simp [inR]
        obtain ⟨q, hq⟩ : ∃ q, decide (0 ≤ idxFrom (fun x => !(inR l0.length x)) 0 l0) = q := ⟨_, rfl⟩
        rw [hq] at hct hr
        rw [hr] at HE
        obtain rfl := HE.out
        have HB := Aside0.mk hB
        clear hq hr hnd hsz hs hown hB HE
        go_wp2_with (go_at_call 22; refine hct.mono ?_; rintro e w' ⟨rfl, m2, rfl⟩)
        go_ret
        exact ⟨rfl, pw_below_drewN HB.out _⟩
      · have hnd : rightL l0 = false := by
          unfold rightL
          rw [decide_eq_false (fun h => hq (hsz.2 h)), Bool.false_and]
        rw [hnd] at HE
        obtain rfl := HE.out
        have HB := Aside0.mk hB
        have h2 : ((s : Int) == (l0.length : Int)) = false := by
          simp only [beq_eq_false_iff_ne, ne_eq]
          omega
        clear hsz hq hnd hs hown hB HE
        go_wp2
        go_ret
        exact ⟨rfl, HB.out⟩
end Go.Proofs.Ytcmcajjdcbkfkaa.P
