/- Proved: a call of the Go function utf8.Valid, with any bytes, tells whether the model's reading of them yields no character that is none; condition: the package's two tables read as the program's text lays them. -/
import Derived.Test.YtgcdhjgdlnpknaaDoorPUtfW
import Derived.Shelf.Unicode.DecodeSlow
import Derived.Deep.DeepBigQuietO
import Derived.Deep.DeepMust
import Derived.Deep.CutBlock
import Derived.Deep.DeepCutAuto
import Derived.WalkKit
import Derived.ProofKit
import Derived.WalkSpells
namespace Go.Proofs.YtgcdhjgdlnpknaaDoor.P
open Go.RowKit Go.Proofs.YtgcdhjgdlnpknaaDoorW.PrintWords Go.Proofs.YtgcdhjgdlnpknaaDoorW.PrintLast
set_option linter.unusedVariables false
set_option linter.unusedSimpArgs false

/-- The two tables stand in their cells. -/
def U8At (w : World) : Prop := Lib.Utf8Tabs 0 1 w
theorem U8At.at {w w' : World} (h : U8At w) (hb : Below w.heap.size w w') : U8At w' := ⟨fun c hc => cell_later hb (h.1 c hc), fun i hi => ⟨cell_later hb (h.2 i hi).1, cell_later hb (h.2 i hi).2⟩⟩
def bytesB (l : List Int) : Prop := ∀ x ∈ l, 0 ≤ x ∧ x < 256
instance (l : List Int) : Decidable (bytesB l) := inferInstanceAs (Decidable (∀ x ∈ l, 0 ≤ x ∧ x < 256))
def utf8_Valid.f (l0 : List Int) : Option (Bool) := if bytesB l0 then some (validL l0) else none
theorem bytes_rd {l : List Int} (h : bytesB l) (i : Nat) : 0 ≤ rd l (i : Int) ∧ rd l (i : Int) < 256 := by
  by_cases hi : i < l.length
  · rw [rd_get l i hi]
    exact h _ (List.getElem_mem hi)
  · rw [rd_nat, List.getD_eq_getElem?_getD, List.getElem?_eq_none (by omega)]
    simp
theorem bytes_drop {l : List Int} (h : bytesB l) (m : Nat) : bytesB (l.drop m) := fun x hx => h x (List.mem_of_mem_drop hx)
theorem byte_nat {l : List Int} (h : bytesB l) (i : Nat) : ∃ b : Nat, rd l (i : Int) = (b : Int) ∧ b < 256 := ⟨(rd l (i : Int)).toNat, by have := bytes_rd h i; omega, by have := bytes_rd h i; omega⟩
theorem asc_join (l : List Int) (a b : Nat) (h : ∀ i : Nat, i < a → 0 ≤ rd l (i : Int) ∧ rd l (i : Int) < 128) (k : ∀ i : Nat, i < b → 0 ≤ rd (l.drop a) (i : Int) ∧ rd (l.drop a) (i : Int) < 128) : ∀ i : Nat, i < a + b → 0 ≤ rd l (i : Int) ∧ rd l (i : Int) < 128 := fun i hi => by
  by_cases e : i < a
  · exact h i e
  · have := k (i - a) (by omega)
    rw [rd_drop] at this
    rw [show a + (i - a) = i by omega] at this
    exact this
theorem cutM (A : Option Addr) (xs : List Int) (j : Int) (m : Nat) (hj : j = (m : Int)) (hm : m ≤ xs.length) : ∃ A', (∀ W, (Instr.slice 22 (.slice A xs.length xs.length) (some (.int .i64 j)) none none).run Tryd.prog W = .ok (.slice A' (xs.drop m).length (xs.drop m).length) W) ∧ ∀ w, Kd.C (Kd.int .u8) w A xs.length xs → Kd.C (Kd.int .u8) w A' (xs.drop m).length (xs.drop m) := by
  obtain ⟨i010, hi010, _, hsz10, _⟩ := info_parts info5
  obtain ⟨A', h1, h2, h3⟩ := print_drop_of (P := Tryd.prog) (Value.int .u8) 0 22 5 .i64 Tryd.underlying22 hi010 hsz10 A xs.length xs j (by omega) (by omega) (Nat.le_refl _)
  subst hj
  rw [Int.toNat_natCast] at h1 h2 h3
  refine ⟨A', fun W => ?_, fun w h => Kd.C_of_reads (h1 := fun _ => rfl) (h2 _ (Kd.reads_of_C h))⟩
  rw [h1 W, List.length_drop]
set_option maxHeartbeats 8000000 in
set_option maxRecDepth 1000000 in
theorem utf8_Valid.calls (A0 : Option Addr) (c0 : Nat) (l0 : List Int) (r : Bool) (w : World) (hr0 : Kd.C (Kd.int .u8) w A0 l0.length l0) (hc0 : l0.length ≤ c0) (h : utf8_Valid.f l0 = some r) (hL : U8At w) :
    Calls Tryd.prog 23 #[.slice A0 l0.length c0] w fun e w' => e = .returned (.bool r) ∧ Below w.heap.size w w' := by
  unfold utf8_Valid.f at h
  by_cases hb0 : bytesB l0
  rotate_left
  · rw [if_neg hb0] at h
    exact absurd h (by simp)
  rw [if_pos hb0] at h
  have hans := Option.some.inj h
  clear h
  have hcap : ∀ W, (Instr.slice 22 (.slice A0 l0.length c0) none (some (.int .i64 (l0.length : Int))) (some (.int .i64 (l0.length : Int)))).run Tryd.prog W = .ok (.slice A0 l0.length l0.length) W := fun W => by
    obtain ⟨i010, hi010, _, hsz10, _⟩ := info_parts info5
    have hel : Tryd.prog.elem 22 = 5 := by simp [Program.elem, Tryd.underlying22]
    have hu : Tryd.prog.underlying 22 = some (.slice (Tryd.prog.elem 22)) := by rw [hel]; exact Tryd.underlying22
    have ha : (A0.map fun x => x.add 0) = A0 := by cases A0 <;> simp [Addr.add]
    rw [run_slice_hm W 22 A0 l0.length c0 hu .i64 .i64 (l0.length : Int) (l0.length : Int) (by omega) (Int.le_refl _) (by omega), hel]
    simp [sizeOf, typeInfo, hi010, hsz10, sliced, Result.andThen, ha]
  have mixed : Tryd.prog.follows Departure.mixedOrders = true := by kernel_rfl
  have HL := Aside0.mk hL
  have HR0 := Aside0.mk hr0
  have HBY := Aside0.mk hb0
  have HA := Aside0.mk hans
  clear hL hr0 hb0 hans
  go_enter Tryd.func23, Tryd.ntmps23
  go_wp2
  go_loopg [0] (l0.length + 1) (fun gk s0 wx => Below w.heap.size w wx ∧ ∃ (A : Option Addr) (xs : List Int), s0 = .slice A xs.length xs.length ∧ Aside0 (Kd.C (Kd.int .u8) wx A xs.length xs) ∧ Aside0 (bytesB xs) ∧ Aside0 (validL xs = r) ∧ xs.length < gk)
  case atStart => exact ⟨Below.refl _ _, A0, l0, rfl, HR0, HBY, HA, by omega⟩
  case round =>
    clear hcap
    obtain ⟨hbw, A, xs, rfl, HX, HY, HV, hg⟩ := hrel
    clear HR0 HBY HA
    have HT := Aside0.mk (HL.out.at hbw)
    by_cases h0 : 0 < xs.length
    · obtain ⟨g', rfl⟩ : ∃ g', gk = g' + 1 := ⟨gk - 1, by omega⟩
      have h0z : (0 : Int) < (xs.length : Int) := by omega
      obtain ⟨b0, e0, l0b⟩ := byte_nat HY.out 0
      obtain ⟨ad, ea, hx0⟩ := Kd.at_int HX.out (0 : Int) (Int.le_refl _) h0z
      subst ea
      have e0 : rd xs 0 = (b0 : Int) := e0
      rw [e0] at hx0
      have hx0 : wr.cell? ad = some (.int .u8 (b0 : Int)) := by simpa [Addr.add] using hx0
      by_cases hasc : b0 < 128
      · as_aux_lemma =>
        have hascz : (b0 : Int) < 128 := by omega
        obtain ⟨A1, hcut1, hC1⟩ := cutM (some ad) xs 1 1 rfl (by omega)
        have va := Aside0.mk ((validL_one xs h0 (by omega) (by omega)).symm.trans HV.out)
        have hX1 := Aside0.mk (hC1 _ HX.out)
        have hY1 := Aside0.mk (bytes_drop HY.out 1)
        have z1 : (xs.drop 1).length + 1 = xs.length := by rw [List.length_drop]; omega
        obtain ⟨ys, hys⟩ : ∃ ys, xs.drop 1 = ys := ⟨_, rfl⟩
        rw [hys] at hcut1 va hX1 hY1 z1
        clear hC1 hys HV HT HY
        by_cases c8 : 8 < ys.length
        · have c8z : (8 : Int) < (ys.length : Int) := by omega
          obtain ⟨v1, hv1, lv1, kv1⟩ := word_of ys (by omega) (fun i => bytes_rd hY1.out i)
          have cW1 : ∀ q, Calls Tryd.prog 31 #[.slice A1 ys.length ys.length] (wr.drewN q) fun e w' => e = .returned (.int .u64 (v1 : Int)) ∧ ∃ m, w' = (wr.drewN q).drewN m := fun q => (utf8_word.calls A1 ys.length ys (v1 : Int) (wr.drewN q) (Kd.C_drewN hX1.out q) (Nat.le_refl _) hv1).mono fun e w' ⟨he, m, hd⟩ => ⟨he, m, hd⟩
          have HV1 := Aside0.mk hv1
          clear hv1
          have cW0 : Calls Tryd.prog 31 #[.slice A1 ys.length ys.length] wr fun e w' => e = .returned (.int .u64 (v1 : Int)) ∧ ∃ m, w' = wr.drewN m := (utf8_word.calls A1 ys.length ys (v1 : Int) wr hX1.out (Nat.le_refl _) HV1.out).mono fun e w' ⟨he, m, hd⟩ => ⟨he, m, hd⟩
          have hand := and_mask v1 lv1
          obtain ⟨Z, hZ⟩ : ∃ Z, v1 &&& maskW = Z := ⟨_, rfl⟩
          rw [hZ] at hand kv1
          clear hZ cW1 lv1
          by_cases hz : Z = 0
          · have hzb : ((Z : Int) == 0) = true := by simp [hz]
            have vz := Aside0.mk ((validL_skip 8 ys (by omega) (kv1 hz)).symm.trans va.out)
            clear kv1
            obtain ⟨A2, hcut2, hC2⟩ := cutM A1 ys 8 8 rfl (by omega)
            have hX2 := Aside0.mk (hC2 _ hX1.out)
            have hY2 := Aside0.mk (bytes_drop hY1.out 8)
            have z2 : (ys.drop 8).length + 8 = ys.length := by rw [List.length_drop]; omega
            clear hC2
            obtain ⟨zs, hzs⟩ : ∃ zs, ys.drop 8 = zs := ⟨_, rfl⟩
            rw [hzs] at hcut2 hX2 hY2 z2 vz
            clear hzs
            go_wp2_with (go_at_call 31; refine cW0.mono ?_; rintro e W1 ⟨rfl, q1, rfl⟩)
            have n0_ := Aside0.mk (Kd.C_drewN hX2.out q1)
            have hb1 : Below w.heap.size w (wr.drewN q1) := pw_below_drewN hbw q1
            clear hX2
            have hX2 := n0_
            clear n0_ cW0 hbw HX hx0 hX1
            generalize wr.drewN q1 = wq at hb1 hX2 ⊢
            by_cases c16 : 16 < zs.length
            · have c16z : (16 : Int) < (zs.length : Int) := by omega
              have s8z : (8 : Int) ≤ (zs.length : Int) := by omega
              obtain ⟨A3, hcut3, hC3⟩ := cutM A2 zs 8 8 rfl (by omega)
              have hX3 := Aside0.mk (hC3 _ hX2.out)
              have hY3 := Aside0.mk (bytes_drop hY2.out 8)
              have z3 : (zs.drop 8).length + 8 = zs.length := by rw [List.length_drop]; omega
              clear hC3
              obtain ⟨zb, hzb2⟩ : ∃ zb, zs.drop 8 = zb := ⟨_, rfl⟩
              rw [hzb2] at hcut3 hX3 hY3 z3
              obtain ⟨v2, hv2, lv2, kv2⟩ := word_of zs (by omega) (fun i => bytes_rd hY2.out i)
              have cW2 : ∀ q, Calls Tryd.prog 31 #[.slice A2 zs.length zs.length] (wq.drewN q) fun e w' => e = .returned (.int .u64 (v2 : Int)) ∧ ∃ m, w' = (wq.drewN q).drewN m := fun q => (utf8_word.calls A2 zs.length zs (v2 : Int) (wq.drewN q) (Kd.C_drewN hX2.out q) (Nat.le_refl _) hv2).mono fun e w' ⟨he, m, hd⟩ => ⟨he, m, hd⟩
              have HV2 := Aside0.mk hv2
              clear hv2
              obtain ⟨v3, hv3, lv3, kv3⟩ := word_of zb (by omega) (fun i => bytes_rd hY3.out i)
              have cW3 : ∀ q, Calls Tryd.prog 31 #[.slice A3 zb.length zb.length] (wq.drewN q) fun e w' => e = .returned (.int .u64 (v3 : Int)) ∧ ∃ m, w' = (wq.drewN q).drewN m := fun q => (utf8_word.calls A3 zb.length zb (v3 : Int) (wq.drewN q) (Kd.C_drewN hX3.out q) (Nat.le_refl _) hv3).mono fun e w' ⟨he, m, hd⟩ => ⟨he, m, hd⟩
              have HV3 := Aside0.mk hv3
              clear hv3
              have k2 : (v2 ||| v3) &&& maskW = 0 → ∀ i : Nat, i < 16 → 0 ≤ rd zs (i : Int) ∧ rd zs (i : Int) < 128 := fun h0' => asc_join zs 8 8 (kv2 (or_mask h0').1) (by rw [hzb2]; exact kv3 (or_mask h0').2)
              obtain ⟨hor2, lor2⟩ := or64 v2 v3 lv2 lv3
              have hand2 := and_mask _ lor2
              obtain ⟨O2, hO2⟩ : ∃ O2, v2 ||| v3 = O2 := ⟨_, rfl⟩
              rw [hO2] at hor2 hand2 k2
              obtain ⟨Z2, hZ2⟩ : ∃ Z2, O2 &&& maskW = Z2 := ⟨_, rfl⟩
              rw [hZ2] at hand2 k2
              clear kv2 kv3 lor2 hO2 hZ2 hzb2 lv2 lv3
              by_cases hz2 : Z2 = 0
              · have hz2b : ((Z2 : Int) == 0) = true := by simp [hz2]
                have vt := Aside0.mk ((validL_skip 16 zs (by omega) (k2 hz2)).symm.trans vz.out)
                clear k2
                obtain ⟨A4, hcut4, hC4⟩ := cutM A2 zs 16 16 rfl (by omega)
                have hX4 := Aside0.mk (hC4 _ hX2.out)
                have hY4 := Aside0.mk (bytes_drop hY2.out 16)
                have z4 : (zs.drop 16).length + 16 = zs.length := by rw [List.length_drop]; omega
                clear hC4
                obtain ⟨ts, hts⟩ : ∃ ts, zs.drop 16 = ts := ⟨_, rfl⟩
                rw [hts] at hcut4 hX4 hY4 z4 vt
                clear hts
                go_big_quiet_o (first | (go_at_call 31; with_reducible refine Calls.quiet_of (cW2 _)) | (go_at_call 31; with_reducible refine Calls.quiet_of (cW3 _)))
                have n0_ := Aside0.mk (Kd.C_drewN hX4.out nq)
                have hb2 : Below w.heap.size w (wq.drewN nq) := pw_below_drewN hb1 nq
                clear hX4 cW2 cW3 hb1 hX2 hX3
                have hX4 := n0_
                clear n0_
                generalize wq.drewN nq = wq2 at hb2 hX4 ⊢
                go_wp2
                go_loopg [0] (ts.length + 1) (fun g2 s0 wx => Below w.heap.size w wx ∧ ∃ (A : Option Addr) (us : List Int), s0 = .slice A us.length us.length ∧ Aside0 (Kd.C (Kd.int .u8) wx A us.length us) ∧ Aside0 (bytesB us) ∧ Aside0 (validL us = r) ∧ us.length < g2 ∧ us.length ≤ ts.length)
                case atStart => exact ⟨hb2, A4, ts, rfl, hX4, hY4, vt, by omega, Nat.le_refl _⟩
                case round =>
                  obtain ⟨hbu, A5, us, rfl, hXu, hYu, vu, hgu, hut⟩ := hrel
                  clear hX4 hY4 vt hb2
                  by_cases c32 : 32 < us.length
                  · obtain ⟨g3, rfl⟩ : ∃ g3, gk = g3 + 1 := ⟨gk - 1, by omega⟩
                    have c32z : (32 : Int) < (us.length : Int) := by omega
                    have s8u : (8 : Int) ≤ (us.length : Int) := by omega
                    have s16u : (16 : Int) ≤ (us.length : Int) := by omega
                    have s24u : (24 : Int) ≤ (us.length : Int) := by omega
                    obtain ⟨A6, hcut6, hC6⟩ := cutM A5 us 8 8 rfl (by omega)
                    have hX6 := Aside0.mk (hC6 _ hXu.out)
                    have hY6 := Aside0.mk (bytes_drop hYu.out 8)
                    have z6 : (us.drop 8).length + 8 = us.length := by rw [List.length_drop]; omega
                    clear hC6
                    obtain ⟨ub, hub⟩ : ∃ x, us.drop 8 = x := ⟨_, rfl⟩
                    rw [hub] at hcut6 hX6 hY6 z6
                    obtain ⟨A7, hcut7, hC7⟩ := cutM A5 us 16 16 rfl (by omega)
                    have hX7 := Aside0.mk (hC7 _ hXu.out)
                    have hY7 := Aside0.mk (bytes_drop hYu.out 16)
                    have z7 : (us.drop 16).length + 16 = us.length := by rw [List.length_drop]; omega
                    clear hC7
                    obtain ⟨uc, huc⟩ : ∃ x, us.drop 16 = x := ⟨_, rfl⟩
                    rw [huc] at hcut7 hX7 hY7 z7
                    obtain ⟨A8, hcut8, hC8⟩ := cutM A5 us 24 24 rfl (by omega)
                    have hX8 := Aside0.mk (hC8 _ hXu.out)
                    have hY8 := Aside0.mk (bytes_drop hYu.out 24)
                    have z8 : (us.drop 24).length + 24 = us.length := by rw [List.length_drop]; omega
                    clear hC8
                    obtain ⟨ud, hud⟩ : ∃ x, us.drop 24 = x := ⟨_, rfl⟩
                    rw [hud] at hcut8 hX8 hY8 z8
                    obtain ⟨v5, hv5, lv5, kv5⟩ := word_of us (by omega) (fun i => bytes_rd hYu.out i)
                    have cW5 : ∀ q, Calls Tryd.prog 31 #[.slice A5 us.length us.length] (wr.drewN q) fun e w' => e = .returned (.int .u64 (v5 : Int)) ∧ ∃ m, w' = (wr.drewN q).drewN m := fun q => (utf8_word.calls A5 us.length us (v5 : Int) (wr.drewN q) (Kd.C_drewN hXu.out q) (Nat.le_refl _) hv5).mono fun e w' ⟨he, m, hd⟩ => ⟨he, m, hd⟩
                    have HV5 := Aside0.mk hv5
                    clear hv5
                    obtain ⟨v6, hv6, lv6, kv6⟩ := word_of ub (by omega) (fun i => bytes_rd hY6.out i)
                    have cW6 : ∀ q, Calls Tryd.prog 31 #[.slice A6 ub.length ub.length] (wr.drewN q) fun e w' => e = .returned (.int .u64 (v6 : Int)) ∧ ∃ m, w' = (wr.drewN q).drewN m := fun q => (utf8_word.calls A6 ub.length ub (v6 : Int) (wr.drewN q) (Kd.C_drewN hX6.out q) (Nat.le_refl _) hv6).mono fun e w' ⟨he, m, hd⟩ => ⟨he, m, hd⟩
                    have HV6 := Aside0.mk hv6
                    clear hv6
                    obtain ⟨v7, hv7, lv7, kv7⟩ := word_of uc (by omega) (fun i => bytes_rd hY7.out i)
                    have cW7 : ∀ q, Calls Tryd.prog 31 #[.slice A7 uc.length uc.length] (wr.drewN q) fun e w' => e = .returned (.int .u64 (v7 : Int)) ∧ ∃ m, w' = (wr.drewN q).drewN m := fun q => (utf8_word.calls A7 uc.length uc (v7 : Int) (wr.drewN q) (Kd.C_drewN hX7.out q) (Nat.le_refl _) hv7).mono fun e w' ⟨he, m, hd⟩ => ⟨he, m, hd⟩
                    have HV7 := Aside0.mk hv7
                    clear hv7
                    obtain ⟨v8, hv8, lv8, kv8⟩ := word_of ud (by omega) (fun i => bytes_rd hY8.out i)
                    have cW8 : ∀ q, Calls Tryd.prog 31 #[.slice A8 ud.length ud.length] (wr.drewN q) fun e w' => e = .returned (.int .u64 (v8 : Int)) ∧ ∃ m, w' = (wr.drewN q).drewN m := fun q => (utf8_word.calls A8 ud.length ud (v8 : Int) (wr.drewN q) (Kd.C_drewN hX8.out q) (Nat.le_refl _) hv8).mono fun e w' ⟨he, m, hd⟩ => ⟨he, m, hd⟩
                    have HV8 := Aside0.mk hv8
                    clear hv8
                    have k3 : ((v5 ||| v6) ||| (v7 ||| v8)) &&& maskW = 0 → ∀ i : Nat, i < 32 → 0 ≤ rd us (i : Int) ∧ rd us (i : Int) < 128 := fun h0' => asc_join us 24 8 (asc_join us 16 8 (asc_join us 8 8 (kv5 (or_mask (or_mask h0').1).1) (by rw [hub]; exact kv6 (or_mask (or_mask h0').1).2)) (by rw [huc]; exact kv7 (or_mask (or_mask h0').2).1)) (by rw [hud]; exact kv8 (or_mask (or_mask h0').2).2)
                    obtain ⟨ho1, lo1⟩ := or64 v5 v6 lv5 lv6
                    obtain ⟨ho2, lo2⟩ := or64 v7 v8 lv7 lv8
                    obtain ⟨ho3, lo3⟩ := or64 _ _ lo1 lo2
                    have hand3 := and_mask _ lo3
                    obtain ⟨P1, hP1⟩ : ∃ P1, v5 ||| v6 = P1 := ⟨_, rfl⟩
                    obtain ⟨P2, hP2⟩ : ∃ P2, v7 ||| v8 = P2 := ⟨_, rfl⟩
                    rw [hP1, hP2] at ho3 hand3 k3
                    rw [hP1] at ho1
                    rw [hP2] at ho2
                    obtain ⟨P3, hP3⟩ : ∃ P3, P1 ||| P2 = P3 := ⟨_, rfl⟩
                    rw [hP3] at ho3 hand3 k3
                    obtain ⟨Z3, hZ3⟩ : ∃ Z3, P3 &&& maskW = Z3 := ⟨_, rfl⟩
                    rw [hZ3] at hand3 k3
                    clear kv5 kv6 kv7 kv8 lv5 lv6 lv7 lv8 lo1 lo2 lo3 hP1 hP2 hP3 hZ3 hub huc hud
                    by_cases hz3 : Z3 = 0
                    · have hz3b : ((Z3 : Int) == 0) = true := by simp [hz3]
                      have vt := Aside0.mk ((validL_skip 32 us (by omega) (k3 hz3)).symm.trans vu.out)
                      clear k3
                      obtain ⟨A9, hcut9, hC9⟩ := cutM A5 us 32 32 rfl (by omega)
                      have hX9 := Aside0.mk (hC9 _ hXu.out)
                      have hY9 := Aside0.mk (bytes_drop hYu.out 32)
                      have z9 : (us.drop 32).length + 32 = us.length := by rw [List.length_drop]; omega
                      clear hC9
                      obtain ⟨uz, huz⟩ : ∃ uz, us.drop 32 = uz := ⟨_, rfl⟩
                      rw [huz] at hcut9 hX9 hY9 z9 vt
                      clear huz
                      go_wp2_with fail
                      go_big_quiet_o (first | (go_at_call 31; with_reducible refine Calls.quiet_of (cW5 _)) | (go_at_call 31; with_reducible refine Calls.quiet_of (cW6 _)) | (go_at_call 31; with_reducible refine Calls.quiet_of (cW7 _)) | (go_at_call 31; with_reducible refine Calls.quiet_of (cW8 _)))
                      go_wp2
                      go_roundg g3
                      case measure => omega
                      case rel => exact ⟨pw_below_drewN hbu nq, A9, uz, rfl, ⟨Kd.C_drewN hX9.out nq⟩, hY9, vt, by omega, by omega⟩
                    · have hz3b : ((Z3 : Int) == 0) = false := by simp [hz3]
                      clear k3
                      go_wp2_with fail
                      go_big_quiet_o (first | (go_at_call 31; with_reducible refine Calls.quiet_of (cW5 _)) | (go_at_call 31; with_reducible refine Calls.quiet_of (cW6 _)) | (go_at_call 31; with_reducible refine Calls.quiet_of (cW7 _)) | (go_at_call 31; with_reducible refine Calls.quiet_of (cW8 _)))
                      go_wp2
                      go_roundg g'
                      case measure => omega
                      case rel => exact ⟨pw_below_drewN hbu nq, A5, us, rfl, ⟨Kd.C_drewN hXu.out nq⟩, hYu, vu, by omega⟩
                  · have c32z : ¬ ((32 : Int) < (us.length : Int)) := by omega
                    have c32b : decide ((32 : Int) < (us.length : Int)) = false := decide_eq_false c32z
                    go_wp2_with fail
                    go_big_quiet_o (fail)
                    go_wp2
                    go_roundg g'
                    case measure => omega
                    case rel => exact ⟨pw_below_drewN hbu nq, A5, us, rfl, ⟨Kd.C_drewN hXu.out nq⟩, hYu, vu, by omega⟩
              · have hz2b : ((Z2 : Int) == 0) = false := by simp [hz2]
                clear k2
                go_big_quiet_o (first | (go_at_call 31; with_reducible refine Calls.quiet_of (cW2 _)) | (go_at_call 31; with_reducible refine Calls.quiet_of (cW3 _)))
                go_wp2
                go_roundg g'
                case measure => omega
                case rel => exact ⟨pw_below_drewN hb1 nq, A2, zs, rfl, ⟨Kd.C_drewN hX2.out nq⟩, hY2, vz, by omega⟩
            · have c16z : ¬ ((16 : Int) < (zs.length : Int)) := by omega
              have c16b : decide ((16 : Int) < (zs.length : Int)) = false := decide_eq_false c16z
              go_big_quiet_o (fail)
              go_wp2
              go_roundg g'
              case measure => omega
              case rel => exact ⟨pw_below_drewN hb1 nq, A2, zs, rfl, ⟨Kd.C_drewN hX2.out nq⟩, hY2, vz, by omega⟩
          · have hzb : ((Z : Int) == 0) = false := by simp [hz]
            clear c8 kv1
            go_wp2_with (go_at_call 31; refine cW0.mono ?_; rintro e W1 ⟨rfl, q1, rfl⟩)
            go_roundg g'
            case measure => omega
            case rel => exact ⟨pw_below_drewN hbw q1, A1, ys, rfl, ⟨Kd.C_drewN hX1.out q1⟩, hY1, va, by omega⟩
        · have c8z : ¬ ((8 : Int) < (ys.length : Int)) := by omega
          go_wp2
          go_roundg g'
          case measure => omega
          case rel => exact ⟨hbw, A1, ys, rfl, hX1, hY1, va, by omega⟩
      · as_aux_lemma =>
        have hge : 128 ≤ b0 := by omega
        have hascz : ¬ ((b0 : Int) < 128) := by omega
        have hc0 := HT.out.1 b0 l0b
        have hXlt := firstT_lt b0
        have hcase := firstT_high b0 hge l0b
        have e0' : (rd xs 0).toNat = b0 := by omega
        obtain ⟨X, hX⟩ : ∃ X, Lib.firstT b0 = X := ⟨_, rfl⟩
        rw [hX] at hc0 hXlt hcase
        have hXX := Aside0.mk (show Lib.firstT (rd xs 0).toNat = X by rw [e0']; exact hX)
        have h7 := and_seven X hXlt
        have ha0 : wr.cell? ⟨1, X / 16 * 2, none⟩ = some (.int .u8 (Lib.accLo (X / 16))) := by rw [Nat.mul_comm]; exact (HT.out.2 (X / 16) (by omega)).1
        have ha1 : wr.cell? ⟨1, X / 16 * 2 + 1, none⟩ = some (.int .u8 (Lib.accHi (X / 16))) := by rw [Nat.mul_comm]; exact (HT.out.2 (X / 16) (by omega)).2
        have HCASE := Aside0.mk hcase
        have HBAD := Aside0.mk (fun h => validL_bad xs h0 (by omega) (by rw [e0']; exact hX.trans h) : X = 241 → validL xs = false)
        clear hX HT hcase e0'
        by_cases s2 : X % 8 = 2
        · as_aux_lemma =>
          have hl0_ := validL_two xs h0 (fun i => bytes_rd HY.out i) X hXX.out (by have := HCASE.out; omega) s2
          have hSZz : (X : Int) % 8 = 2 := by omega
          rw [s2] at h7
          obtain ⟨b1, e1, l1b⟩ := byte_nat HY.out 1
          have e1 : rd xs 1 = (b1 : Int) := e1
          rw [e1] at hl0_
          simp only [Int.toNat_natCast] at hl0_
          obtain ⟨LO, hLO⟩ : ∃ LO, Lib.accLo (X / 16) = LO := ⟨_, rfl⟩
          obtain ⟨HI, hHI⟩ : ∃ HI, Lib.accHi (X / 16) = HI := ⟨_, rfl⟩
          rw [hLO] at ha0 hl0_
          rw [hHI] at ha1 hl0_
          have hlead := Aside0.mk hl0_
          clear hl0_ hLO hHI HBAD
          have HXW := Aside0.mk (Kd.C_alloc HX.out (Obj.cells #[Value.int .u8 (LO : Int), Value.int .u8 (HI : Int)] 49))
          have hbW : Below w.heap.size w (wr.alloc (Obj.cells #[Value.int .u8 (LO : Int), Value.int .u8 (HI : Int)] 49)) := below_alloc hbw _
          have hl0 : (wr.alloc (Obj.cells #[Value.int .u8 (LO : Int), Value.int .u8 (HI : Int)] 49)).cell? ⟨wr.heap.size, 0, none⟩ = some (.int .u8 (LO : Int)) := blk_cell (heap_alloc_new wr _) 0
          have hl1 : (wr.alloc (Obj.cells #[Value.int .u8 (LO : Int), Value.int .u8 (HI : Int)] 49)).cell? ⟨wr.heap.size, 1, none⟩ = some (.int .u8 (HI : Int)) := blk_cell (heap_alloc_new wr _) 1
          go_upto_region 18 with fail
          generalize wr.alloc (Obj.cells #[Value.int .u8 (LO : Int), Value.int .u8 (HI : Int)] 49) = W1 at HXW hbW hl0 hl1 ⊢
          generalize wr.heap.size = gb at hl0 hl1 ⊢
          clear hc0 ha0 ha1 HX hx0 hbw h7 hXX hSZz
          go_cut [103] from 85 to 103 (fun c wx => c = .bool (decide (xs.length < 2 ∨ b1 < LO ∨ HI < b1)) ∧ ∃ n, wx = W1.drewN n)
          case first =>
            by_cases q0 : xs.length < 2
            · have q0z : (xs.length : Int) < 2 := by omega
              have q0y : decide ((xs.length : Int) < 2) = true := decide_eq_true q0z
              go_big_quiet_o (fail)
              go_wp2
              go_meet
              exact ⟨congrArg Value.bool (decide_eq_true (p := xs.length < 2 ∨ b1 < LO ∨ HI < b1) (by omega)).symm, _, rfl⟩
            · have q0z : ¬ ((xs.length : Int) < 2) := by omega
              have q0y : decide ((xs.length : Int) < 2) = false := decide_eq_false q0z
              have hz1 : (1 : Int) < (xs.length : Int) := by omega
              obtain ⟨ad1, ea1, hx1⟩ := Kd.at_int HXW.out (1 : Int) (by decide) hz1
              obtain rfl := Option.some.inj ea1
              rw [e1] at hx1
              have hx1 : W1.cell? ⟨ad.block, ad.off + 1, none⟩ = some (.int .u8 (b1 : Int)) := hx1
              by_cases q1 : b1 < LO
              · have q1z : (b1 : Int) < (LO : Int) := by omega
                have q1y : decide ((b1 : Int) < (LO : Int)) = true := decide_eq_true q1z
                go_big_quiet_o (fail)
                go_wp2
                go_meet
                exact ⟨congrArg Value.bool (decide_eq_true (p := xs.length < 2 ∨ b1 < LO ∨ HI < b1) (by omega)).symm, _, rfl⟩
              · have q1z : ¬ ((b1 : Int) < (LO : Int)) := by omega
                have q1y : decide ((b1 : Int) < (LO : Int)) = false := decide_eq_false q1z
                by_cases q2 : HI < b1
                · have q2z : (HI : Int) < (b1 : Int) := by omega
                  have q2y : decide ((HI : Int) < (b1 : Int)) = true := decide_eq_true q2z
                  go_big_quiet_o (fail)
                  go_wp2
                  go_meet
                  exact ⟨congrArg Value.bool (decide_eq_true (p := xs.length < 2 ∨ b1 < LO ∨ HI < b1) (by omega)).symm, _, rfl⟩
                · have q2z : ¬ ((HI : Int) < (b1 : Int)) := by omega
                  have q2y : decide ((HI : Int) < (b1 : Int)) = false := decide_eq_false q2z
                  go_big_quiet_o (fail)
                  go_wp2
                  go_meet
                  exact ⟨congrArg Value.bool (decide_eq_false (p := xs.length < 2 ∨ b1 < LO ∨ HI < b1) (by omega)).symm, _, rfl⟩
          case rest =>
            obtain ⟨rfl, nd, rfl⟩ := hcut
            by_cases hb : xs.length < 2 ∨ b1 < LO ∨ HI < b1
            · have hbd : decide (xs.length < 2 ∨ b1 < LO ∨ HI < b1) = true := decide_eq_true hb
              have hv := hlead.out
              rw [if_pos hb, HV.out] at hv
              subst hv
              clear hl0 hl1
              go_wp2
              all_goals (go_ret; exact ⟨rfl, pw_below_drewN hbW _⟩)
            · have hbd : decide (xs.length < 2 ∨ b1 < LO ∨ HI < b1) = false := decide_eq_false hb
              have hv := Aside0.mk (hlead.out.symm.trans HV.out)
              have hv2 := Aside0.mk ((if_neg hb).symm.trans hv.out)
              obtain ⟨A2, hcut2, hC2⟩ := cutM (some ad) xs 2 2 rfl (by omega)
              have hX2 := Aside0.mk (hC2 _ HXW.out)
              have hY2 := Aside0.mk (bytes_drop HY.out 2)
              have z2 : (xs.drop 2).length + 2 = xs.length := by rw [List.length_drop]; omega
              obtain ⟨ys, hys⟩ : ∃ ys, xs.drop 2 = ys := ⟨_, rfl⟩
              rw [hys] at hcut2 hX2 hY2 z2 hv2
              clear hl0 hl1 hC2 hv hlead hys HY HV
              go_wp2
              go_roundg g'
              case measure => omega
              case rel => exact ⟨pw_below_drewN hbW _, A2, ys, rfl, ⟨Kd.C_drewN hX2.out _⟩, hY2, hv2, by omega⟩
        by_cases s3 : X % 8 = 3
        · as_aux_lemma =>
          have hl0_ := validL_three xs h0 (fun i => bytes_rd HY.out i) X hXX.out (by have := HCASE.out; omega) s3
          have hSZz : (X : Int) % 8 = 3 := by omega
          rw [s3] at h7
          obtain ⟨b1, e1, l1b⟩ := byte_nat HY.out 1
          have e1 : rd xs 1 = (b1 : Int) := e1
          rw [e1] at hl0_
          obtain ⟨b2, e2, l2b⟩ := byte_nat HY.out 2
          have e2 : rd xs 2 = (b2 : Int) := e2
          rw [e2] at hl0_
          simp only [Int.toNat_natCast] at hl0_
          obtain ⟨LO, hLO⟩ : ∃ LO, Lib.accLo (X / 16) = LO := ⟨_, rfl⟩
          obtain ⟨HI, hHI⟩ : ∃ HI, Lib.accHi (X / 16) = HI := ⟨_, rfl⟩
          rw [hLO] at ha0 hl0_
          rw [hHI] at ha1 hl0_
          have hlead := Aside0.mk hl0_
          clear hl0_ hLO hHI HBAD
          have HXW := Aside0.mk (Kd.C_alloc HX.out (Obj.cells #[Value.int .u8 (LO : Int), Value.int .u8 (HI : Int)] 49))
          have hbW : Below w.heap.size w (wr.alloc (Obj.cells #[Value.int .u8 (LO : Int), Value.int .u8 (HI : Int)] 49)) := below_alloc hbw _
          have hl0 : (wr.alloc (Obj.cells #[Value.int .u8 (LO : Int), Value.int .u8 (HI : Int)] 49)).cell? ⟨wr.heap.size, 0, none⟩ = some (.int .u8 (LO : Int)) := blk_cell (heap_alloc_new wr _) 0
          have hl1 : (wr.alloc (Obj.cells #[Value.int .u8 (LO : Int), Value.int .u8 (HI : Int)] 49)).cell? ⟨wr.heap.size, 1, none⟩ = some (.int .u8 (HI : Int)) := blk_cell (heap_alloc_new wr _) 1
          go_upto_region 22 with fail
          generalize wr.alloc (Obj.cells #[Value.int .u8 (LO : Int), Value.int .u8 (HI : Int)] 49) = W1 at HXW hbW hl0 hl1 ⊢
          generalize wr.heap.size = gb at hl0 hl1 ⊢
          clear hc0 ha0 ha1 HX hx0 hbw h7 hXX hSZz
          go_cut [138] from 108 to 138 (fun c wx => c = .bool (decide (xs.length < 3 ∨ b1 < LO ∨ HI < b1 ∨ b2 < 128 ∨ 191 < b2)) ∧ ∃ n, wx = W1.drewN n)
          case first =>
            by_cases q0 : xs.length < 3
            · have q0z : (xs.length : Int) < 3 := by omega
              have q0y : decide ((xs.length : Int) < 3) = true := decide_eq_true q0z
              go_big_quiet_o (fail)
              go_wp2
              go_meet
              exact ⟨congrArg Value.bool (decide_eq_true (p := xs.length < 3 ∨ b1 < LO ∨ HI < b1 ∨ b2 < 128 ∨ 191 < b2) (by omega)).symm, _, rfl⟩
            · have q0z : ¬ ((xs.length : Int) < 3) := by omega
              have q0y : decide ((xs.length : Int) < 3) = false := decide_eq_false q0z
              have hz1 : (1 : Int) < (xs.length : Int) := by omega
              obtain ⟨ad1, ea1, hx1⟩ := Kd.at_int HXW.out (1 : Int) (by decide) hz1
              obtain rfl := Option.some.inj ea1
              rw [e1] at hx1
              have hx1 : W1.cell? ⟨ad.block, ad.off + 1, none⟩ = some (.int .u8 (b1 : Int)) := hx1
              have hz2 : (2 : Int) < (xs.length : Int) := by omega
              obtain ⟨ad2, ea2, hx2⟩ := Kd.at_int HXW.out (2 : Int) (by decide) hz2
              obtain rfl := Option.some.inj ea2
              rw [e2] at hx2
              have hx2 : W1.cell? ⟨ad.block, ad.off + 2, none⟩ = some (.int .u8 (b2 : Int)) := hx2
              by_cases q1 : b1 < LO
              · have q1z : (b1 : Int) < (LO : Int) := by omega
                have q1y : decide ((b1 : Int) < (LO : Int)) = true := decide_eq_true q1z
                go_big_quiet_o (fail)
                go_wp2
                go_meet
                exact ⟨congrArg Value.bool (decide_eq_true (p := xs.length < 3 ∨ b1 < LO ∨ HI < b1 ∨ b2 < 128 ∨ 191 < b2) (by omega)).symm, _, rfl⟩
              · have q1z : ¬ ((b1 : Int) < (LO : Int)) := by omega
                have q1y : decide ((b1 : Int) < (LO : Int)) = false := decide_eq_false q1z
                by_cases q2 : HI < b1
                · have q2z : (HI : Int) < (b1 : Int) := by omega
                  have q2y : decide ((HI : Int) < (b1 : Int)) = true := decide_eq_true q2z
                  go_big_quiet_o (fail)
                  go_wp2
                  go_meet
                  exact ⟨congrArg Value.bool (decide_eq_true (p := xs.length < 3 ∨ b1 < LO ∨ HI < b1 ∨ b2 < 128 ∨ 191 < b2) (by omega)).symm, _, rfl⟩
                · have q2z : ¬ ((HI : Int) < (b1 : Int)) := by omega
                  have q2y : decide ((HI : Int) < (b1 : Int)) = false := decide_eq_false q2z
                  by_cases q3 : b2 < 128
                  · have q3z : (b2 : Int) < 128 := by omega
                    have q3y : decide ((b2 : Int) < 128) = true := decide_eq_true q3z
                    go_big_quiet_o (fail)
                    go_wp2
                    go_meet
                    exact ⟨congrArg Value.bool (decide_eq_true (p := xs.length < 3 ∨ b1 < LO ∨ HI < b1 ∨ b2 < 128 ∨ 191 < b2) (by omega)).symm, _, rfl⟩
                  · have q3z : ¬ ((b2 : Int) < 128) := by omega
                    have q3y : decide ((b2 : Int) < 128) = false := decide_eq_false q3z
                    by_cases q4 : 191 < b2
                    · have q4z : (191 : Int) < (b2 : Int) := by omega
                      have q4y : decide ((191 : Int) < (b2 : Int)) = true := decide_eq_true q4z
                      go_big_quiet_o (fail)
                      go_wp2
                      go_meet
                      exact ⟨congrArg Value.bool (decide_eq_true (p := xs.length < 3 ∨ b1 < LO ∨ HI < b1 ∨ b2 < 128 ∨ 191 < b2) (by omega)).symm, _, rfl⟩
                    · have q4z : ¬ ((191 : Int) < (b2 : Int)) := by omega
                      have q4y : decide ((191 : Int) < (b2 : Int)) = false := decide_eq_false q4z
                      go_big_quiet_o (fail)
                      go_wp2
                      go_meet
                      exact ⟨congrArg Value.bool (decide_eq_false (p := xs.length < 3 ∨ b1 < LO ∨ HI < b1 ∨ b2 < 128 ∨ 191 < b2) (by omega)).symm, _, rfl⟩
          case rest =>
            obtain ⟨rfl, nd, rfl⟩ := hcut
            by_cases hb : xs.length < 3 ∨ b1 < LO ∨ HI < b1 ∨ b2 < 128 ∨ 191 < b2
            · have hbd : decide (xs.length < 3 ∨ b1 < LO ∨ HI < b1 ∨ b2 < 128 ∨ 191 < b2) = true := decide_eq_true hb
              have hv := hlead.out
              rw [if_pos hb, HV.out] at hv
              subst hv
              clear hl0 hl1
              go_wp2
              all_goals (go_ret; exact ⟨rfl, pw_below_drewN hbW _⟩)
            · have hbd : decide (xs.length < 3 ∨ b1 < LO ∨ HI < b1 ∨ b2 < 128 ∨ 191 < b2) = false := decide_eq_false hb
              have hv := Aside0.mk (hlead.out.symm.trans HV.out)
              have hv2 := Aside0.mk ((if_neg hb).symm.trans hv.out)
              obtain ⟨A2, hcut2, hC2⟩ := cutM (some ad) xs 3 3 rfl (by omega)
              have hX2 := Aside0.mk (hC2 _ HXW.out)
              have hY2 := Aside0.mk (bytes_drop HY.out 3)
              have z2 : (xs.drop 3).length + 3 = xs.length := by rw [List.length_drop]; omega
              obtain ⟨ys, hys⟩ : ∃ ys, xs.drop 3 = ys := ⟨_, rfl⟩
              rw [hys] at hcut2 hX2 hY2 z2 hv2
              clear hl0 hl1 hC2 hv hlead hys HY HV
              go_wp2
              go_roundg g'
              case measure => omega
              case rel => exact ⟨pw_below_drewN hbW _, A2, ys, rfl, ⟨Kd.C_drewN hX2.out _⟩, hY2, hv2, by omega⟩
        by_cases s4 : X % 8 = 4
        · as_aux_lemma =>
          have hl0_ := validL_four xs h0 (fun i => bytes_rd HY.out i) X hXX.out (by have := HCASE.out; omega) s4
          have hSZz : (X : Int) % 8 = 4 := by omega
          rw [s4] at h7
          obtain ⟨b1, e1, l1b⟩ := byte_nat HY.out 1
          have e1 : rd xs 1 = (b1 : Int) := e1
          rw [e1] at hl0_
          obtain ⟨b2, e2, l2b⟩ := byte_nat HY.out 2
          have e2 : rd xs 2 = (b2 : Int) := e2
          rw [e2] at hl0_
          obtain ⟨b3, e3, l3b⟩ := byte_nat HY.out 3
          have e3 : rd xs 3 = (b3 : Int) := e3
          rw [e3] at hl0_
          simp only [Int.toNat_natCast] at hl0_
          obtain ⟨LO, hLO⟩ : ∃ LO, Lib.accLo (X / 16) = LO := ⟨_, rfl⟩
          obtain ⟨HI, hHI⟩ : ∃ HI, Lib.accHi (X / 16) = HI := ⟨_, rfl⟩
          rw [hLO] at ha0 hl0_
          rw [hHI] at ha1 hl0_
          have hlead := Aside0.mk hl0_
          clear hl0_ hLO hHI HBAD
          have HXW := Aside0.mk (Kd.C_alloc HX.out (Obj.cells #[Value.int .u8 (LO : Int), Value.int .u8 (HI : Int)] 49))
          have hbW : Below w.heap.size w (wr.alloc (Obj.cells #[Value.int .u8 (LO : Int), Value.int .u8 (HI : Int)] 49)) := below_alloc hbw _
          have hl0 : (wr.alloc (Obj.cells #[Value.int .u8 (LO : Int), Value.int .u8 (HI : Int)] 49)).cell? ⟨wr.heap.size, 0, none⟩ = some (.int .u8 (LO : Int)) := blk_cell (heap_alloc_new wr _) 0
          have hl1 : (wr.alloc (Obj.cells #[Value.int .u8 (LO : Int), Value.int .u8 (HI : Int)] 49)).cell? ⟨wr.heap.size, 1, none⟩ = some (.int .u8 (HI : Int)) := blk_cell (heap_alloc_new wr _) 1
          go_upto_region 26 with fail
          generalize wr.alloc (Obj.cells #[Value.int .u8 (LO : Int), Value.int .u8 (HI : Int)] 49) = W1 at HXW hbW hl0 hl1 ⊢
          generalize wr.heap.size = gb at hl0 hl1 ⊢
          clear hc0 ha0 ha1 HX hx0 hbw h7 hXX hSZz
          go_cut [185] from 143 to 185 (fun c wx => c = .bool (decide (xs.length < 4 ∨ b1 < LO ∨ HI < b1 ∨ b2 < 128 ∨ 191 < b2 ∨ b3 < 128 ∨ 191 < b3)) ∧ ∃ n, wx = W1.drewN n)
          case first =>
            by_cases q0 : xs.length < 4
            · have q0z : (xs.length : Int) < 4 := by omega
              have q0y : decide ((xs.length : Int) < 4) = true := decide_eq_true q0z
              go_big_quiet_o (fail)
              go_wp2
              go_meet
              exact ⟨congrArg Value.bool (decide_eq_true (p := xs.length < 4 ∨ b1 < LO ∨ HI < b1 ∨ b2 < 128 ∨ 191 < b2 ∨ b3 < 128 ∨ 191 < b3) (by omega)).symm, _, rfl⟩
            · have q0z : ¬ ((xs.length : Int) < 4) := by omega
              have q0y : decide ((xs.length : Int) < 4) = false := decide_eq_false q0z
              have hz1 : (1 : Int) < (xs.length : Int) := by omega
              obtain ⟨ad1, ea1, hx1⟩ := Kd.at_int HXW.out (1 : Int) (by decide) hz1
              obtain rfl := Option.some.inj ea1
              rw [e1] at hx1
              have hx1 : W1.cell? ⟨ad.block, ad.off + 1, none⟩ = some (.int .u8 (b1 : Int)) := hx1
              have hz2 : (2 : Int) < (xs.length : Int) := by omega
              obtain ⟨ad2, ea2, hx2⟩ := Kd.at_int HXW.out (2 : Int) (by decide) hz2
              obtain rfl := Option.some.inj ea2
              rw [e2] at hx2
              have hx2 : W1.cell? ⟨ad.block, ad.off + 2, none⟩ = some (.int .u8 (b2 : Int)) := hx2
              have hz3 : (3 : Int) < (xs.length : Int) := by omega
              obtain ⟨ad3, ea3, hx3⟩ := Kd.at_int HXW.out (3 : Int) (by decide) hz3
              obtain rfl := Option.some.inj ea3
              rw [e3] at hx3
              have hx3 : W1.cell? ⟨ad.block, ad.off + 3, none⟩ = some (.int .u8 (b3 : Int)) := hx3
              by_cases q1 : b1 < LO
              · have q1z : (b1 : Int) < (LO : Int) := by omega
                have q1y : decide ((b1 : Int) < (LO : Int)) = true := decide_eq_true q1z
                go_big_quiet_o (fail)
                go_wp2
                go_meet
                exact ⟨congrArg Value.bool (decide_eq_true (p := xs.length < 4 ∨ b1 < LO ∨ HI < b1 ∨ b2 < 128 ∨ 191 < b2 ∨ b3 < 128 ∨ 191 < b3) (by omega)).symm, _, rfl⟩
              · have q1z : ¬ ((b1 : Int) < (LO : Int)) := by omega
                have q1y : decide ((b1 : Int) < (LO : Int)) = false := decide_eq_false q1z
                by_cases q2 : HI < b1
                · have q2z : (HI : Int) < (b1 : Int) := by omega
                  have q2y : decide ((HI : Int) < (b1 : Int)) = true := decide_eq_true q2z
                  go_big_quiet_o (fail)
                  go_wp2
                  go_meet
                  exact ⟨congrArg Value.bool (decide_eq_true (p := xs.length < 4 ∨ b1 < LO ∨ HI < b1 ∨ b2 < 128 ∨ 191 < b2 ∨ b3 < 128 ∨ 191 < b3) (by omega)).symm, _, rfl⟩
                · have q2z : ¬ ((HI : Int) < (b1 : Int)) := by omega
                  have q2y : decide ((HI : Int) < (b1 : Int)) = false := decide_eq_false q2z
                  by_cases q3 : b2 < 128
                  · have q3z : (b2 : Int) < 128 := by omega
                    have q3y : decide ((b2 : Int) < 128) = true := decide_eq_true q3z
                    go_big_quiet_o (fail)
                    go_wp2
                    go_meet
                    exact ⟨congrArg Value.bool (decide_eq_true (p := xs.length < 4 ∨ b1 < LO ∨ HI < b1 ∨ b2 < 128 ∨ 191 < b2 ∨ b3 < 128 ∨ 191 < b3) (by omega)).symm, _, rfl⟩
                  · have q3z : ¬ ((b2 : Int) < 128) := by omega
                    have q3y : decide ((b2 : Int) < 128) = false := decide_eq_false q3z
                    by_cases q4 : 191 < b2
                    · have q4z : (191 : Int) < (b2 : Int) := by omega
                      have q4y : decide ((191 : Int) < (b2 : Int)) = true := decide_eq_true q4z
                      go_big_quiet_o (fail)
                      go_wp2
                      go_meet
                      exact ⟨congrArg Value.bool (decide_eq_true (p := xs.length < 4 ∨ b1 < LO ∨ HI < b1 ∨ b2 < 128 ∨ 191 < b2 ∨ b3 < 128 ∨ 191 < b3) (by omega)).symm, _, rfl⟩
                    · have q4z : ¬ ((191 : Int) < (b2 : Int)) := by omega
                      have q4y : decide ((191 : Int) < (b2 : Int)) = false := decide_eq_false q4z
                      by_cases q5 : b3 < 128
                      · have q5z : (b3 : Int) < 128 := by omega
                        have q5y : decide ((b3 : Int) < 128) = true := decide_eq_true q5z
                        go_big_quiet_o (fail)
                        go_wp2
                        go_meet
                        exact ⟨congrArg Value.bool (decide_eq_true (p := xs.length < 4 ∨ b1 < LO ∨ HI < b1 ∨ b2 < 128 ∨ 191 < b2 ∨ b3 < 128 ∨ 191 < b3) (by omega)).symm, _, rfl⟩
                      · have q5z : ¬ ((b3 : Int) < 128) := by omega
                        have q5y : decide ((b3 : Int) < 128) = false := decide_eq_false q5z
                        by_cases q6 : 191 < b3
                        · have q6z : (191 : Int) < (b3 : Int) := by omega
                          have q6y : decide ((191 : Int) < (b3 : Int)) = true := decide_eq_true q6z
                          go_big_quiet_o (fail)
                          go_wp2
                          go_meet
                          exact ⟨congrArg Value.bool (decide_eq_true (p := xs.length < 4 ∨ b1 < LO ∨ HI < b1 ∨ b2 < 128 ∨ 191 < b2 ∨ b3 < 128 ∨ 191 < b3) (by omega)).symm, _, rfl⟩
                        · have q6z : ¬ ((191 : Int) < (b3 : Int)) := by omega
                          have q6y : decide ((191 : Int) < (b3 : Int)) = false := decide_eq_false q6z
                          go_big_quiet_o (fail)
                          go_wp2
                          go_meet
                          exact ⟨congrArg Value.bool (decide_eq_false (p := xs.length < 4 ∨ b1 < LO ∨ HI < b1 ∨ b2 < 128 ∨ 191 < b2 ∨ b3 < 128 ∨ 191 < b3) (by omega)).symm, _, rfl⟩
          case rest =>
            obtain ⟨rfl, nd, rfl⟩ := hcut
            by_cases hb : xs.length < 4 ∨ b1 < LO ∨ HI < b1 ∨ b2 < 128 ∨ 191 < b2 ∨ b3 < 128 ∨ 191 < b3
            · have hbd : decide (xs.length < 4 ∨ b1 < LO ∨ HI < b1 ∨ b2 < 128 ∨ 191 < b2 ∨ b3 < 128 ∨ 191 < b3) = true := decide_eq_true hb
              have hv := hlead.out
              rw [if_pos hb, HV.out] at hv
              subst hv
              clear hl0 hl1
              go_wp2
              all_goals (go_ret; exact ⟨rfl, pw_below_drewN hbW _⟩)
            · have hbd : decide (xs.length < 4 ∨ b1 < LO ∨ HI < b1 ∨ b2 < 128 ∨ 191 < b2 ∨ b3 < 128 ∨ 191 < b3) = false := decide_eq_false hb
              have hv := Aside0.mk (hlead.out.symm.trans HV.out)
              have hv2 := Aside0.mk ((if_neg hb).symm.trans hv.out)
              obtain ⟨A2, hcut2, hC2⟩ := cutM (some ad) xs 4 4 rfl (by omega)
              have hX2 := Aside0.mk (hC2 _ HXW.out)
              have hY2 := Aside0.mk (bytes_drop HY.out 4)
              have z2 : (xs.drop 4).length + 4 = xs.length := by rw [List.length_drop]; omega
              obtain ⟨ys, hys⟩ : ∃ ys, xs.drop 4 = ys := ⟨_, rfl⟩
              rw [hys] at hcut2 hX2 hY2 z2 hv2
              clear hl0 hl1 hC2 hv hlead hys HY HV
              go_wp2
              go_roundg g'
              case measure => omega
              case rel => exact ⟨pw_below_drewN hbW _, A2, ys, rfl, ⟨Kd.C_drewN hX2.out _⟩, hY2, hv2, by omega⟩
        have h241 : X = 241 := by have := HCASE.out; omega
        have hv : r = false := HV.out.symm.trans (HBAD.out h241)
        subst hv
        subst h241
        have hc0' : wr.cell? ⟨0, b0, none⟩ = some (.int .u8 241) := hc0
        have h7' : Go.bits .and .u8 241 7 = 1 := by decide +kernel
        have ha0' : wr.cell? ⟨1, 30, none⟩ = some (.int .u8 0) := ha0
        have ha1' : wr.cell? ⟨1, 31, none⟩ = some (.int .u8 0) := ha1
        clear HBAD HCASE s2 s3 s4 hXX hc0 h7 ha0 ha1
        go_wp2
        all_goals (go_ret; exact ⟨rfl, below_alloc hbw _⟩)
    · have h0z : ¬ ((0 : Int) < (xs.length : Int)) := by omega
      obtain rfl : xs = [] := List.eq_nil_of_length_eq_zero (by omega)
      have hv := HV.out
      rw [validL_nil] at hv
      subst hv
      clear HV HX HY HT
      go_wp2
      go_ret
      exact ⟨rfl, hbw⟩
end Go.Proofs.YtgcdhjgdlnpknaaDoor.P
