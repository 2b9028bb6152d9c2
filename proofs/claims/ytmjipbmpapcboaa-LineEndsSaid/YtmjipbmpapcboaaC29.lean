/- Proved: the theorems below, each under its own conditions. -/
import Derived.Test.YtmjipbmpapcboaaC27
import Derived.Test.YtmjipbmpapcboaaC28
set_option maxHeartbeats 8000000
set_option maxRecDepth 100000
namespace Go.Proofs.Ytmjipbmpapcboaa.P
open Go.RowKit Go.Proofs.YtmjipbmpapcboaaW.PrintWords Go.Proofs.YtmjipbmpapcboaaW.PrintLast Go.Proofs.YtmjipbmpapcboaaW.PrintMore
attribute [local go_sem] ent_f0 ent_f1 ent_f2
set_option linter.unusedVariables false
set_option linter.unusedSimpArgs false
set_option maxHeartbeats 32000000 in
set_option maxRecDepth 100000 in
theorem went_calls (w0 : World) (k : Nat) (A : Option Addr) (n c : Nat) (l : List Int) (b : Int) (sN : WSt) (hn : n = l.length) (hA : Kd.C (Kd.int .i64) w0 A l.length l) (hc : l.length ≤ c) (hl : l.length ≤ 50000) (hG : goW k l l 0 (s0W b) = some sN) :
    Calls Try.prog 50 #[.slice A n c, .int .i64 b] w0 fun e w' => ∃ g vs vl vc, e = .returned (.pointer (some ⟨g, 0, none⟩)) ∧ WS w0 w' g A n c sN vs vl vc := by
  have hu := Try.underlying96;have hu2 := Try.underlying78;have hu3 := Try.underlying76;subst hn;have HA := Aside0.mk hA;have HC := Aside0.mk hc;have HLL := Aside0.mk hl;have HG := Aside0.mk hG;clear hA hc hl hG
  go_enter Try.func50, Try.ntmps50
  go_upto_if 12 with ((with_reducible refine gate_dst (N := 10) rfl ?_); (try (refine gate_guard (by rfl) ?_; dsimp only)); refine box_event ?hg (N := 10) ?hd (cs := #[.int .i64 0, .slice none 0 0, .int .i64 0, .int .i64 0, .int .i64 0, .int .i64 0, .slice none 0 0, .slice none 0 0, .slice A l.length c]) (t := 78) ?hr ?_; (case hd => rfl); (case hg => rfl); (case hr => exact uN); intro g hg w1 hbox hb; have HS0 := Aside0.mk (show WS w0 w1 g A l.length c ⟨0, [], 0, 0, 0, 0, [], []⟩ (.slice none 0 0) (.slice none 0 0) (.slice none 0 0) from ⟨hb, by rw [hg]; exact Nat.le_refl _, hbox, Kd.R_nil _ _ _ _ _, Kd.R_nil _ _ _ _ _, Kd.R_nil _ _ _ _ _⟩); clear hbox hb hg)
  go_cut [12] (fun v12 wc => WS w0 wc g A l.length c ⟨if b ≠ 0 then 1 else 0, [], 0, 0, 0, 0, [], []⟩ (.slice none 0 0) (.slice none 0 0) (.slice none 0 0))
  case first =>
    have f0 := blk_frozen HS0.out.blk 0;have a0 := blk_cell HS0.out.blk 0
    by_cases hb0 : b = 0
    · have HB0 := Aside0.mk hb0
      have e0 : (b != 0) = false := by simpa using hb0
      have e1 : (b == 0) = true := by simpa using hb0
      clear hb0;go_wp2;go_meet;rw [if_neg (by simpa using HB0.out)];exact HS0.out
    · have e0 : (b != 0) = true := by simpa using hb0
      have e1 : (b == 0) = false := by simpa using hb0
      go_wp2;go_meet;rw [if_pos hb0];exact HS0.out.put 0 (.int .i64 1) rfl HS0.out.st HS0.out.lv HS0.out.cl
  case rest =>
    clear HS0;have HS1 := Aside0.mk hcut;clear hcut
    go_wp2_with (first | (go_at_call 67; refine (start_calls w0 _ g A l.length c _ _ _ _ HS1.out).mono ?_; rintro e_ w2 ⟨vs2, rfl, hb⟩; have HS2 := Aside0.mk (show WS w0 w2 g A l.length c (s0W b) vs2 (.slice none 0 0) (.slice none 0 0) from hb); clear hb HS1))
    go_loopw [6] (fun v6 wr => ∃ (i : Nat) (s : WSt) (vs vl vc : Value), v6 = .int .i64 (i : Int) ∧ i ≤ l.length ∧ Aside0 (WS w0 wr g A l.length c s vs vl vc) ∧ Aside0 (Fit s i) ∧ Aside0 (goW k l (l.drop i) i s = some sN)) (fun v _ => l.length - (intOf v).toNat)
    case atStart => exact ⟨0, _, _, _, _, rfl, by omega, HS2, ⟨fit0 b⟩, ⟨by simpa using HG.out⟩⟩
    case round =>
      clear HS2 HG;obtain ⟨i, s, vs, vl, vc, rfl, hi, HS, HF, HG⟩ := hrel;have HM := Aside0.mk (show 0 < s.stack.length ∧ s.stack.length < 100000 from ⟨HF.out.pos, by have := HF.out.st; have := HLL.out; omega⟩);have HL := Aside0.mk (show s.lv.length < 1000000 ∧ s.cl.length < 1000000 from ⟨by rw [HF.out.lv]; have := HLL.out; omega, by rw [HF.out.cl]; have := HLL.out; omega⟩);have HE := Aside0.mk (show 0 ≤ s.emb ∧ s.emb < 100000 from ⟨HF.out.emb.1, by have := HF.out.emb.2; have := HLL.out; omega⟩);have HI := Aside0.mk (show 0 ≤ s.isol ∧ s.isol < 100000 from ⟨HF.out.isol.1, by have := HF.out.isol.2; have := HLL.out; omega⟩);have HV := Aside0.mk (show 0 ≤ s.val ∧ s.val < 100000 from ⟨HF.out.val.1, by have := HF.out.val.2; have := HLL.out; omega⟩)
      have hw : wrap64 ((i : Int) + 1) = ((i + 1 : Nat) : Int) := by have := HLL.out; unfold wrap64; omega
      have HWI := Aside0.mk hw;clear hw
      by_cases hlt : i < l.length
      · have g1 : decide ((i : Int) < (l.length : Int)) = true := decide_eq_true (by omega)
        have g2 : ((0 : Int) ≤ (i : Int)) = True := eq_true (by omega);have g3 : ((i : Int) < (l.length : Int)) = True := eq_true (by omega);obtain ⟨ad, e, hx⟩ := Kd.at_int HA.out (i : Int) (by omega) (by omega);cases e;rw [Int.toNat_natCast] at hx;replace hx := (HS.out.below.cell (World.block_lt_of_cell? w0 _ hx)).trans hx;have hG := HG.out;rw [drop_rd l i hlt] at hG;clear HG;have HLT := Aside0.mk hlt;clear hlt hi;generalize rd l (i : Int) = x at hx hG
        have fin : ∀ (x' : Int) (w' : World) (s' : WSt) (vs' vl' vc' : Value), x' = ((i + 1 : Nat) : Int) → WS w0 w' g (some ad) l.length c s' vs' vl' vc' → Fit s' (i + 1) → goW k l (l.drop (i + 1)) (i + 1) s' = some sN → (∃ (i : Nat) (s : WSt) (vs vl vc : Value), Value.int .i64 x' = .int .i64 (i : Int) ∧ i ≤ l.length ∧ Aside0 (WS w0 w' g (some ad) l.length c s vs vl vc) ∧ Aside0 (Fit s i) ∧ Aside0 (goW k l (l.drop i) i s = some sN)) ∧ l.length - (intOf (Value.int .i64 x')).toNat < l.length - (intOf (Value.int .i64 (i : Int))).toNat := by
          intro x' w' s' vs' vl' vc' h1 h2 h3 h4;subst h1;refine ⟨⟨i + 1, s', vs', vl', vc', rfl, HLT.out, ⟨h2⟩, ⟨h3⟩, ⟨h4⟩⟩, ?_⟩;have := HLT.out;simp only [intOf, Int.toNat_natCast]
          omega
        have hop0 : ∀ (y : Int), (¬ (y = 19 ∨ y = 20 ∨ y = 21)) → ∀ W, Calls Try.prog 22 #[.int .i64 y] W fun e w' => e = .returned (.bool false) ∧ Drawn0 W w' := fun y hy W => ductusref02_Opens.calls y false W (opens_no y hy)
        have HOP := Aside0.mk hop0;clear hop0
        by_cases x16 : x = 16
        · subst x16
          have hG2 := goW_no (by omega) hG;rw [show stepW s 16 = embedS s 16 from rfl] at hG2;have HG2 := Aside0.mk hG2;have HF2 := Aside0.mk (show Fit (embedS s 16) (i + 1) from HF.out.embed 16);clear hG hG2 HF
          go_wp2_with (first | (go_at_call 68; refine (embed_calls w0 _ g (some ad) l.length c s vs vl vc HS.out 16 HM.out HL.out HE.out).mono ?_; rintro e_ w6 ⟨vs3, vl3, vc3, rfl, hb⟩; have HS3 := Aside0.mk hb; clear hb HS))
          first | exact fin _ _ _ _ _ _ rfl HS3.out (HF2.out) (HG2.out) | exact fin _ _ _ _ _ _ HWI.out HS3.out (HF2.out) (HG2.out)
        by_cases x14 : x = 14
        · subst x14
          have hG2 := goW_no (by omega) hG;rw [show stepW s 14 = embedS s 14 from rfl] at hG2;have HG2 := Aside0.mk hG2;have HF2 := Aside0.mk (show Fit (embedS s 14) (i + 1) from HF.out.embed 14);clear hG hG2 HF
          go_wp2_with (first | (go_at_call 68; refine (embed_calls w0 _ g (some ad) l.length c s vs vl vc HS.out 14 HM.out HL.out HE.out).mono ?_; rintro e_ w6 ⟨vs3, vl3, vc3, rfl, hb⟩; have HS3 := Aside0.mk hb; clear hb HS))
          first | exact fin _ _ _ _ _ _ rfl HS3.out (HF2.out) (HG2.out) | exact fin _ _ _ _ _ _ HWI.out HS3.out (HF2.out) (HG2.out)
        by_cases x17 : x = 17
        · subst x17
          have hG2 := goW_no (by omega) hG;rw [show stepW s 17 = embedS s 17 from rfl] at hG2;have HG2 := Aside0.mk hG2;have HF2 := Aside0.mk (show Fit (embedS s 17) (i + 1) from HF.out.embed 17);clear hG hG2 HF
          go_wp2_with (first | (go_at_call 68; refine (embed_calls w0 _ g (some ad) l.length c s vs vl vc HS.out 17 HM.out HL.out HE.out).mono ?_; rintro e_ w6 ⟨vs3, vl3, vc3, rfl, hb⟩; have HS3 := Aside0.mk hb; clear hb HS))
          first | exact fin _ _ _ _ _ _ rfl HS3.out (HF2.out) (HG2.out) | exact fin _ _ _ _ _ _ HWI.out HS3.out (HF2.out) (HG2.out)
        by_cases x15 : x = 15
        · subst x15
          have hG2 := goW_no (by omega) hG;rw [show stepW s 15 = embedS s 15 from rfl] at hG2;have HG2 := Aside0.mk hG2;have HF2 := Aside0.mk (show Fit (embedS s 15) (i + 1) from HF.out.embed 15);clear hG hG2 HF
          go_wp2_with (first | (go_at_call 68; refine (embed_calls w0 _ g (some ad) l.length c s vs vl vc HS.out 15 HM.out HL.out HE.out).mono ?_; rintro e_ w6 ⟨vs3, vl3, vc3, rfl, hb⟩; have HS3 := Aside0.mk hb; clear hb HS))
          first | exact fin _ _ _ _ _ _ rfl HS3.out (HF2.out) (HG2.out) | exact fin _ _ _ _ _ _ HWI.out HS3.out (HF2.out) (HG2.out)
        by_cases x19 : x = 19
        · subst x19
          obtain ⟨d, hd, hG2⟩ := goW_iso (by omega) hG;have HG2 := Aside0.mk hG2;have HD := Aside0.mk hd;have HF2 := Aside0.mk (HF.out.isolate 19 d);clear hG hG2 HF hd
          go_wp2_with (first | (go_at_call 22; refine (ductusref02_Opens.calls 19 true _ rfl).mono ?_; rintro e_ w5 ⟨rfl, nd, rfl⟩; have HS2 := Aside0.mk (HS.out.more (pw_below_drewN (Below.refl _ _) nd)); clear HS; generalize World.drewN _ _ = w5 at HS2 ⊢) | (go_at_call 69; refine (isolate_calls w0 _ g (some ad) l.length c s vs vl vc HS2.out (i : Int) 19 d k l HA.out rfl HC.out HD.out HM.out HL.out HI.out HV.out).mono ?_; rintro e_ w6 ⟨vs3, vl3, vc3, rfl, hb⟩; have HS3 := Aside0.mk hb; clear hb HS2))
          first | exact fin _ _ _ _ _ _ rfl HS3.out (HF2.out) (HG2.out) | exact fin _ _ _ _ _ _ HWI.out HS3.out (HF2.out) (HG2.out)
        by_cases x20 : x = 20
        · subst x20
          obtain ⟨d, hd, hG2⟩ := goW_iso (by omega) hG;have HG2 := Aside0.mk hG2;have HD := Aside0.mk hd;have HF2 := Aside0.mk (HF.out.isolate 20 d);clear hG hG2 HF hd
          go_wp2_with (first | (go_at_call 22; refine (ductusref02_Opens.calls 20 true _ rfl).mono ?_; rintro e_ w5 ⟨rfl, nd, rfl⟩; have HS2 := Aside0.mk (HS.out.more (pw_below_drewN (Below.refl _ _) nd)); clear HS; generalize World.drewN _ _ = w5 at HS2 ⊢) | (go_at_call 69; refine (isolate_calls w0 _ g (some ad) l.length c s vs vl vc HS2.out (i : Int) 20 d k l HA.out rfl HC.out HD.out HM.out HL.out HI.out HV.out).mono ?_; rintro e_ w6 ⟨vs3, vl3, vc3, rfl, hb⟩; have HS3 := Aside0.mk hb; clear hb HS2))
          first | exact fin _ _ _ _ _ _ rfl HS3.out (HF2.out) (HG2.out) | exact fin _ _ _ _ _ _ HWI.out HS3.out (HF2.out) (HG2.out)
        by_cases x21 : x = 21
        · subst x21
          obtain ⟨d, hd, hG2⟩ := goW_iso (by omega) hG;have HG2 := Aside0.mk hG2;have HD := Aside0.mk hd;have HF2 := Aside0.mk (HF.out.isolate 21 d);clear hG hG2 HF hd
          go_wp2_with (first | (go_at_call 22; refine (ductusref02_Opens.calls 21 true _ rfl).mono ?_; rintro e_ w5 ⟨rfl, nd, rfl⟩; have HS2 := Aside0.mk (HS.out.more (pw_below_drewN (Below.refl _ _) nd)); clear HS; generalize World.drewN _ _ = w5 at HS2 ⊢) | (go_at_call 69; refine (isolate_calls w0 _ g (some ad) l.length c s vs vl vc HS2.out (i : Int) 21 d k l HA.out rfl HC.out HD.out HM.out HL.out HI.out HV.out).mono ?_; rintro e_ w6 ⟨vs3, vl3, vc3, rfl, hb⟩; have HS3 := Aside0.mk hb; clear hb HS2))
          first | exact fin _ _ _ _ _ _ rfl HS3.out (HF2.out) (HG2.out) | exact fin _ _ _ _ _ _ HWI.out HS3.out (HF2.out) (HG2.out)
        have hno : ¬ (x = 19 ∨ x = 20 ∨ x = 21) := by omega
        have hG2 := goW_no hno hG;clear hG
        by_cases x22 : x = 22
        · subst x22
          rw [show stepW s 22 = endS s 22 (lastIso s.stack.length s.stack) from rfl] at hG2;have HG2 := Aside0.mk hG2;have HF2 := Aside0.mk (show Fit (endS s 22 (lastIso s.stack.length s.stack)) (i + 1) from HF.out.end_ 22);have HQ := Aside0.mk (fun hv => HF.out.last hv);clear hG2 HF hno
          go_wp2_with (first | (go_at_call 22; refine (HOP.out _ (by omega) _).mono ?_; rintro e_ w5 ⟨rfl, nd, rfl⟩; have HS2 := Aside0.mk (HS.out.more (pw_below_drewN (Below.refl _ _) nd)); clear HS; generalize World.drewN _ _ = w5 at HS2 ⊢) | (go_at_call 70; refine (end_calls w0 _ g (some ad) l.length c s vs vl vc HS2.out 22 (lastIso s.stack.length s.stack) HM.out HL.out HI.out HV.out HQ.out).mono ?_; rintro e_ w6 ⟨vs3, vl3, vc3, rfl, hb⟩; have HS3 := Aside0.mk hb; clear hb HS2))
          first | exact fin _ _ _ _ _ _ rfl HS3.out (HF2.out) (HG2.out) | exact fin _ _ _ _ _ _ HWI.out HS3.out (HF2.out) (HG2.out)
        by_cases x18 : x = 18
        · subst x18
          rw [show stepW s 18 = backS s from rfl] at hG2;have HG2 := Aside0.mk hG2;have HF2 := Aside0.mk (show Fit (backS s) (i + 1) from HF.out.back);clear hG2 HF hno
          go_wp2_with (first | (go_at_call 22; refine (HOP.out _ (by omega) _).mono ?_; rintro e_ w5 ⟨rfl, nd, rfl⟩; have HS2 := Aside0.mk (HS.out.more (pw_below_drewN (Below.refl _ _) nd)); clear HS; generalize World.drewN _ _ = w5 at HS2 ⊢) | (go_at_call 71; refine (back_calls w0 _ g (some ad) l.length c s vs vl vc HS2.out HM.out HL.out HE.out).mono ?_; rintro e_ w6 ⟨vs3, vl3, vc3, rfl, hb⟩; have HS3 := Aside0.mk hb; clear hb HS2))
          first | exact fin _ _ _ _ _ _ rfl HS3.out (HF2.out) (HG2.out) | exact fin _ _ _ _ _ _ HWI.out HS3.out (HF2.out) (HG2.out)
        by_cases x9 : x = 9
        · subst x9
          rw [show stepW s 9 = bothS s 9 from rfl] at hG2;have HG2 := Aside0.mk hG2;have HF2 := Aside0.mk (show Fit (bothS s 9) (i + 1) from HF.out.both 9);clear hG2 HF hno
          go_upto_region 19 with (first | (go_at_call 22; refine (HOP.out _ (by omega) _).mono ?_; rintro e_ w5 ⟨rfl, nd, rfl⟩; have HS2 := Aside0.mk (HS.out.more (pw_below_drewN (Below.refl _ _) nd)); clear HS; generalize World.drewN _ _ = w5 at HS2 ⊢))
          have HW := Aside0.mk HS2.out.wb;clear HS2;have HWB := Aside0.mk (HW.out.more (below_drew1 (Below.refl _ _)));refine start_ (n := 24) (S := fun w' => w'.heap[g]? = some (.cells #[.int .i64 s.base, vs, .int .i64 s.isol, .int .i64 s.emb, .int .i64 s.val, .int .i64 s.most, vl, vc, .slice (some ad) l.length c] 78 (0, 0))) (ds := [20, 23]) #[false, false, false, false, false, false, false, false, false, false, false, false, false, false, false, false, false, false, false, false, false, false, false, false] (by kernel_rfl) rfl rfl HWB.out.blk (fun hHeld => ?_);generalize w5.drew = k0 at hHeld HWB ⊢;clear HW;refine pK 0 70 ?_;refine pK 1 71 ?_;refine pK 2 72 ?_;refine pK 3 73 ?_;refine pK 4 74 ?_;refine tK 5 75 hHeld (hr := by rintro w' hS; have a1 := blk_cell hS 6; go_simp; with_reducible rfl) (h := ?_);refine pK 6 76 ?_;refine pK 11 81 ?_;refine pK 12 82 ?_;refine pK 13 83 ?_;refine tK 14 84 hHeld (hr := by rintro w' hS; have a1 := blk_cell hS 7; go_simp; with_reducible rfl) (h := ?_);refine pK 15 85 ?_;refine join_ (σ := Option Addr × Nat × Nat × Nat) 7 #[true, true, true, true, true, true, true, true, true, true, true, true, true, true, true, true, true, false, false, false, false, false, false, false] (fun s_ => [(77, .agg #[.int .i64 (tp s).f0, .int .i64 (tp s).f1, .bool (tp s).f2]), (78, .int .i64 (tp s).f0), (79, .slice (some ⟨s_.2.2.1, 0, none⟩) 1 1), (80, .slice s_.1 (s.lv.length + 1) s_.2.1), (86, .slice (some ⟨s_.2.2.2, 0, none⟩) 1 1)]) (fun s_ w' => WB w0 w' g (some ad) l.length c s vs vl vc vs (.slice s_.1 (s.lv.length + 1) s_.2.1) vc s.stack (s.lv ++ [(tp s).f0]) s.cl ∧ Bx w' (.slice s_.1 (s.lv.length + 1) s_.2.1) vc s_.2.2.2 9) ?_ ?_;rotate_left
          · skip
            intro hCont;refine two_ (i := 7) (j := 16) (Ni := some 77) (Nj := some 86) #[true, true, true, true, true, true, true, true, false, false, false, true, true, true, true, true, false, false, false, false, false, false, false, false] #[true, true, true, true, true, true, true, false, false, false, false, true, true, true, true, true, true, false, false, false, false, false, false, false] rfl rfl rfl rfl (by kernel_rfl) (by decide) (by decide) (fun K hK => ?_) (fun K hK => ?_)
            · skip
              refine goes_ Try.func72 (by kernel_rfl) rfl #[.pointer (some ⟨g, 0, none⟩)] (by rfl) rfl rfl (by (try simp only [List.map_toArray, List.map_cons, List.map_nil]); rfl) ?_;refine (top_b HWB.out HM.out).mono ?_;rintro e_ k1 ⟨rfl, hb⟩;refine ⟨_, rfl, ?_⟩;have HWB2 := Aside0.mk (HWB.out.more hb);clear hb HWB;have HWB := HWB2;clear HWB2;refine hK.out _ _ HWB.out.blk (fun hHeld => ?_);clear hK K;refine norm_ (a' := ?_) ?_ ?_;rotate_left
              · show Act.put _ (some 77) _ = _
                simp only [Act.put, List.setIfInBounds_toArray, List.set_cons_zero, List.set_cons_succ, i64_w, i32_w];rfl
              refine pK 8 78 ?_;refine two_ (i := 9) (j := 16) (Ni := some 79) (Nj := some 86) #[true, true, true, true, true, true, true, true, true, true, false, true, true, true, true, true, false, false, false, false, false, false, false, false] #[true, true, true, true, true, true, true, true, true, false, false, true, true, true, true, true, true, false, false, false, false, false, false, false] rfl rfl rfl rfl (by kernel_rfl) (by decide) (by decide) (fun K hK => ?_) (fun K hK => ?_)
              · skip
                refine box1_step (x := (tp s).f0) (by rfl) (N := 79) rfl (by first | (go_simp; done) | (go_simp; rfl)) ?_;intro kHBA w1 hk hb1 hb;have HBA := Aside0.mk (Bx.made HWB.out hk hb1);have HWB2 := Aside0.mk (HWB.out.more hb);clear hb hb1 hk HWB;have HWB := HWB2;clear HWB2;refine hK.out _ _ HWB.out.blk (fun hHeld => ?_);clear hK K;refine norm_ (a' := ?_) ?_ ?_;rotate_left
                · show Act.put _ (some 79) _ = _
                  simp only [Act.put, List.setIfInBounds_toArray, List.set_cons_zero, List.set_cons_succ, i64_w, i32_w];rfl
                refine two_ (i := 10) (j := 16) (Ni := some 80) (Nj := some 86) #[true, true, true, true, true, true, true, true, true, true, true, true, true, true, true, true, false, false, false, false, false, false, false, false] #[true, true, true, true, true, true, true, true, true, true, false, true, true, true, true, true, true, false, false, false, false, false, false, false] rfl rfl rfl rfl (by kernel_rfl) (by decide) (by decide) (fun K hK => ?_) (fun K hK => ?_)
                · skip
                  refine HWB.out.app_l HBA.out HL.out.1 (by rfl) (.tmp 75) (.tmp 79) rfl rfl rfl ?_;intro ul' w1 hb hg hat;obtain ⟨Al, cpl, rfl⟩ := Kd.R_slice hb.lv;simp only [List.length_append, List.length_singleton] at hb hat ⊢;have HWB2 := Aside0.mk hb;clear hb hg hat HWB HBA;have HWB := HWB2;clear HWB2;refine hK.out _ _ HWB.out.blk (fun hHeld => ?_);clear hK K;refine norm_ (a' := ?_) ?_ ?_;rotate_left
                  · show Act.put _ (some 80) _ = _
                    simp only [Act.put, List.setIfInBounds_toArray, List.set_cons_zero, List.set_cons_succ, i64_w, i32_w];rfl
                  refine one_ (i := 16) (N := some 86) #[true, true, true, true, true, true, true, true, true, true, true, true, true, true, true, true, true, false, false, false, false, false, false, false] rfl rfl (by kernel_rfl) (by decide) (fun K hK => ?_);refine box1_step (x := 9) (by rfl) (N := 86) rfl (by first | (go_simp; done) | (go_simp; rfl)) ?_;intro kHBB w1 hk hb1 hb;have HBB := Aside0.mk (Bx.made HWB.out hk hb1);have HWB2 := Aside0.mk (HWB.out.more hb);clear hb hb1 hk HWB;have HWB := HWB2;clear HWB2;refine hK.out _ _ HWB.out.blk (fun hHeld => ?_);clear hK K;refine norm_ (a' := ?_) ?_ ?_;rotate_left
                  · show Act.put _ (some 86) _ = _
                    simp only [Act.put, List.setIfInBounds_toArray, List.set_cons_zero, List.set_cons_succ, i64_w, i32_w];rfl
                  exact norm_ (by simp only [putAll, Act.put, List.setIfInBounds_toArray, List.set_cons_zero, List.set_cons_succ]) (hCont (Al, cpl, kHBA, kHBB) _ ⟨HWB.out, HBB.out⟩)
                · skip
                  refine box1_step (x := 9) (by rfl) (N := 86) rfl (by first | (go_simp; done) | (go_simp; rfl)) ?_;intro kHBB w1 hk hb1 hb;have HBB := Aside0.mk (Bx.made HWB.out hk hb1);have HBA2 := Aside0.mk (HBA.out.more hb);clear HBA;have HBA := HBA2;clear HBA2;have HWB2 := Aside0.mk (HWB.out.more hb);clear hb hb1 hk HWB;have HWB := HWB2;clear HWB2;refine hK.out _ _ HWB.out.blk (fun hHeld => ?_);clear hK K;refine norm_ (a' := ?_) ?_ ?_;rotate_left
                  · show Act.put _ (some 86) _ = _
                    simp only [Act.put, List.setIfInBounds_toArray, List.set_cons_zero, List.set_cons_succ, i64_w, i32_w];rfl
                  refine one_ (i := 10) (N := some 80) #[true, true, true, true, true, true, true, true, true, true, true, true, true, true, true, true, true, false, false, false, false, false, false, false] rfl rfl (by kernel_rfl) (by decide) (fun K hK => ?_);refine HWB.out.app_l HBA.out HL.out.1 (by rfl) (.tmp 75) (.tmp 79) rfl rfl rfl ?_;intro ul' w1 hb hg hat;obtain ⟨Al, cpl, rfl⟩ := Kd.R_slice hb.lv;simp only [List.length_append, List.length_singleton] at hb hat ⊢;have HBB2 := Aside0.mk (HBB.out.grown_l hg hat);clear HBB;have HBB := HBB2;clear HBB2;have HWB2 := Aside0.mk hb;clear hb hg hat HWB HBA;have HWB := HWB2;clear HWB2;refine hK.out _ _ HWB.out.blk (fun hHeld => ?_);clear hK K;refine norm_ (a' := ?_) ?_ ?_;rotate_left
                  · show Act.put _ (some 80) _ = _
                    simp only [Act.put, List.setIfInBounds_toArray, List.set_cons_zero, List.set_cons_succ, i64_w, i32_w];rfl
                  exact norm_ (by simp only [putAll, Act.put, List.setIfInBounds_toArray, List.set_cons_zero, List.set_cons_succ]) (hCont (Al, cpl, kHBA, kHBB) _ ⟨HWB.out, HBB.out⟩)
              · skip
                refine box1_step (x := 9) (by rfl) (N := 86) rfl (by first | (go_simp; done) | (go_simp; rfl)) ?_;intro kHBB w1 hk hb1 hb;have HBB := Aside0.mk (Bx.made HWB.out hk hb1);have HWB2 := Aside0.mk (HWB.out.more hb);clear hb hb1 hk HWB;have HWB := HWB2;clear HWB2;refine hK.out _ _ HWB.out.blk (fun hHeld => ?_);clear hK K;refine norm_ (a' := ?_) ?_ ?_;rotate_left
                · show Act.put _ (some 86) _ = _
                  simp only [Act.put, List.setIfInBounds_toArray, List.set_cons_zero, List.set_cons_succ, i64_w, i32_w];rfl
                refine one_ (i := 9) (N := some 79) #[true, true, true, true, true, true, true, true, true, true, false, true, true, true, true, true, true, false, false, false, false, false, false, false] rfl rfl (by kernel_rfl) (by decide) (fun K hK => ?_);refine box1_step (x := (tp s).f0) (by rfl) (N := 79) rfl (by first | (go_simp; done) | (go_simp; rfl)) ?_;intro kHBA w1 hk hb1 hb;have HBA := Aside0.mk (Bx.made HWB.out hk hb1);have HBB2 := Aside0.mk (HBB.out.more hb);clear HBB;have HBB := HBB2;clear HBB2;have HWB2 := Aside0.mk (HWB.out.more hb);clear hb hb1 hk HWB;have HWB := HWB2;clear HWB2;refine hK.out _ _ HWB.out.blk (fun hHeld => ?_);clear hK K;refine norm_ (a' := ?_) ?_ ?_;rotate_left
                · show Act.put _ (some 79) _ = _
                  simp only [Act.put, List.setIfInBounds_toArray, List.set_cons_zero, List.set_cons_succ, i64_w, i32_w];rfl
                refine one_ (i := 10) (N := some 80) #[true, true, true, true, true, true, true, true, true, true, true, true, true, true, true, true, true, false, false, false, false, false, false, false] rfl rfl (by kernel_rfl) (by decide) (fun K hK => ?_);refine HWB.out.app_l HBA.out HL.out.1 (by rfl) (.tmp 75) (.tmp 79) rfl rfl rfl ?_;intro ul' w1 hb hg hat;obtain ⟨Al, cpl, rfl⟩ := Kd.R_slice hb.lv;simp only [List.length_append, List.length_singleton] at hb hat ⊢;have HBB2 := Aside0.mk (HBB.out.grown_l hg hat);clear HBB;have HBB := HBB2;clear HBB2;have HWB2 := Aside0.mk hb;clear hb hg hat HWB HBA;have HWB := HWB2;clear HWB2;refine hK.out _ _ HWB.out.blk (fun hHeld => ?_);clear hK K;refine norm_ (a' := ?_) ?_ ?_;rotate_left
                · show Act.put _ (some 80) _ = _
                  simp only [Act.put, List.setIfInBounds_toArray, List.set_cons_zero, List.set_cons_succ, i64_w, i32_w];rfl
                exact norm_ (by simp only [putAll, Act.put, List.setIfInBounds_toArray, List.set_cons_zero, List.set_cons_succ]) (hCont (Al, cpl, kHBA, kHBB) _ ⟨HWB.out, HBB.out⟩)
            · skip
              refine box1_step (x := 9) (by rfl) (N := 86) rfl (by first | (go_simp; done) | (go_simp; rfl)) ?_;intro kHBB w1 hk hb1 hb;have HBB := Aside0.mk (Bx.made HWB.out hk hb1);have HWB2 := Aside0.mk (HWB.out.more hb);clear hb hb1 hk HWB;have HWB := HWB2;clear HWB2;refine hK.out _ _ HWB.out.blk (fun hHeld => ?_);clear hK K;refine norm_ (a' := ?_) ?_ ?_;rotate_left
              · show Act.put _ (some 86) _ = _
                simp only [Act.put, List.setIfInBounds_toArray, List.set_cons_zero, List.set_cons_succ, i64_w, i32_w];rfl
              refine one_ (i := 7) (N := some 77) #[true, true, true, true, true, true, true, true, false, false, false, true, true, true, true, true, true, false, false, false, false, false, false, false] rfl rfl (by kernel_rfl) (by decide) (fun K hK => ?_);refine goes_ Try.func72 (by kernel_rfl) rfl #[.pointer (some ⟨g, 0, none⟩)] (by rfl) rfl rfl (by (try simp only [List.map_toArray, List.map_cons, List.map_nil]); rfl) ?_;refine (top_b HWB.out HM.out).mono ?_;rintro e_ k1 ⟨rfl, hb⟩;refine ⟨_, rfl, ?_⟩;have HWB2 := Aside0.mk (HWB.out.more hb);have HBB2 := Aside0.mk (HBB.out.more hb);clear HBB;have HBB := HBB2;clear HBB2;clear hb HWB;have HWB := HWB2;clear HWB2;refine hK.out _ _ HWB.out.blk (fun hHeld => ?_);clear hK K;refine norm_ (a' := ?_) ?_ ?_;rotate_left
              · show Act.put _ (some 77) _ = _
                simp only [Act.put, List.setIfInBounds_toArray, List.set_cons_zero, List.set_cons_succ, i64_w, i32_w];rfl
              refine pK 8 78 ?_;refine one_ (i := 9) (N := some 79) #[true, true, true, true, true, true, true, true, true, true, false, true, true, true, true, true, true, false, false, false, false, false, false, false] rfl rfl (by kernel_rfl) (by decide) (fun K hK => ?_);refine box1_step (x := (tp s).f0) (by rfl) (N := 79) rfl (by first | (go_simp; done) | (go_simp; rfl)) ?_;intro kHBA w1 hk hb1 hb;have HBA := Aside0.mk (Bx.made HWB.out hk hb1);have HBB2 := Aside0.mk (HBB.out.more hb);clear HBB;have HBB := HBB2;clear HBB2;have HWB2 := Aside0.mk (HWB.out.more hb);clear hb hb1 hk HWB;have HWB := HWB2;clear HWB2;refine hK.out _ _ HWB.out.blk (fun hHeld => ?_);clear hK K;refine norm_ (a' := ?_) ?_ ?_;rotate_left
              · show Act.put _ (some 79) _ = _
                simp only [Act.put, List.setIfInBounds_toArray, List.set_cons_zero, List.set_cons_succ, i64_w, i32_w];rfl
              refine one_ (i := 10) (N := some 80) #[true, true, true, true, true, true, true, true, true, true, true, true, true, true, true, true, true, false, false, false, false, false, false, false] rfl rfl (by kernel_rfl) (by decide) (fun K hK => ?_);refine HWB.out.app_l HBA.out HL.out.1 (by rfl) (.tmp 75) (.tmp 79) rfl rfl rfl ?_;intro ul' w1 hb hg hat;obtain ⟨Al, cpl, rfl⟩ := Kd.R_slice hb.lv;simp only [List.length_append, List.length_singleton] at hb hat ⊢;have HBB2 := Aside0.mk (HBB.out.grown_l hg hat);clear HBB;have HBB := HBB2;clear HBB2;have HWB2 := Aside0.mk hb;clear hb hg hat HWB HBA;have HWB := HWB2;clear HWB2;refine hK.out _ _ HWB.out.blk (fun hHeld => ?_);clear hK K;refine norm_ (a' := ?_) ?_ ?_;rotate_left
              · show Act.put _ (some 80) _ = _
                simp only [Act.put, List.setIfInBounds_toArray, List.set_cons_zero, List.set_cons_succ, i64_w, i32_w];rfl
              exact norm_ (by simp only [putAll, Act.put, List.setIfInBounds_toArray, List.set_cons_zero, List.set_cons_succ]) (hCont (Al, cpl, kHBA, kHBB) _ ⟨HWB.out, HBB.out⟩)
          rintro ⟨Al, cpl, kA, kB⟩ w2 ⟨hW, hX⟩;clear HWB hHeld;have HWB := Aside0.mk hW;have HBB := Aside0.mk hX;have hHeld : True := trivial;clear hW hX;refine norm_ (a' := ?_) ?_ ?_;rotate_left
          · simp only [putAll, Act.put, List.setIfInBounds_toArray, List.set_cons_zero, List.set_cons_succ]
            rfl
          refine one_ (i := 17) (N := some 87) #[true, true, true, true, true, true, true, true, true, true, true, true, true, true, true, true, true, true, false, false, false, false, false, false] rfl rfl (by kernel_rfl) (by decide) (fun K hK => ?_);refine HWB.out.app_c HBB.out HL.out.2 (by rfl) (.tmp 84) (.tmp 86) rfl rfl rfl ?_;intro uc' w1 hb;obtain ⟨Ac, cpc, rfl⟩ := Kd.R_slice hb.cl;simp only [List.length_append, List.length_singleton] at hb ⊢;have HWB2 := Aside0.mk hb;clear hb HWB HBB;have HWB := HWB2;clear HWB2;refine hK.out _ _ HWB.out.blk (fun hHeld => ?_);clear hK K;refine norm_ (a' := ?_) ?_ ?_;rotate_left
          · show Act.put _ (some 87) _ = _
            simp only [Act.put, List.setIfInBounds_toArray, List.set_cons_zero, List.set_cons_succ, i64_w, i32_w];rfl
          refine pK 18 88 ?_;refine pK 19 89 ?_;have f1 := blk_frozen HWB.out.blk 6;have f2 := blk_cell HWB.out.blk 6;refine last_ (i := 20) (N := none) #[true, true, true, true, true, true, true, true, true, true, true, true, true, true, true, true, true, true, true, true, true, false, false, false] rfl rfl (by kernel_rfl) (by decide) (fun K hK => ?_);refine skip_ (w1 := ?_) (by rfl) rfl ?_ ?_;rotate_left
          · go_simp
            rfl
          refine hK.out _ _ ?_;clear hK K;have HW1 := Aside0.mk (HWB.out.put 6 (.slice Al (s.lv.length + 1) cpl) rfl (s' := s) (vs' := vs) (vl' := .slice Al (s.lv.length + 1) cpl) (vc' := vc));clear HWB hHeld f1 f2;generalize World.setCell _ _ _ = w3 at HW1 ⊢;have HWB := HW1;clear HW1;have hHeld : True := trivial;refine pK 21 90 ?_;refine pK 22 91 ?_;have f1 := blk_frozen HWB.out.blk 7;have f2 := blk_cell HWB.out.blk 7;refine last_ (i := 23) (N := none) #[true, true, true, true, true, true, true, true, true, true, true, true, true, true, true, true, true, true, true, true, true, true, true, true] rfl rfl (by kernel_rfl) (by decide) (fun K hK => ?_);refine skip_ (w1 := ?_) (by rfl) rfl ?_ ?_;rotate_left
          · go_simp
            rfl
          refine hK.out _ _ ?_;clear hK K;have HW1 := Aside0.mk (HWB.out.put 7 (.slice Ac (s.cl.length + 1) cpc) rfl (s' := s) (vs' := vs) (vl' := .slice Al (s.lv.length + 1) cpl) (vc' := .slice Ac (s.cl.length + 1) cpc));clear HWB hHeld f1 f2;generalize World.setCell _ _ _ = w4 at HW1 ⊢;refine done_ (by kernel_rfl) ?_;generalize Value.slice Al (s.lv.length + 1) cpl = vl2 at HW1 ⊢;generalize Value.slice Ac (s.cl.length + 1) cpc = vc2 at HW1 ⊢;have HS := Aside0.mk (show WS w0 w4 g (some ad) l.length c (bothS s 9) vs vl2 vc2 from HW1.out.ws);clear HW1;go_wp2
          first | exact fin _ _ _ _ _ _ rfl HS.out (HF2.out) (HG2.out) | exact fin _ _ _ _ _ _ HWI.out HS.out (HF2.out) (HG2.out)
        by_cases x10 : x = 10
        · subst x10
          rw [show stepW s 10 = sepS s 10 from rfl] at hG2;have HG2 := Aside0.mk hG2;have HF2 := Aside0.mk (show Fit (sepS s 10) (i + 1) from HF.out.sep 10);clear hG2 HF hno
          go_upto_region 22 with (first | (go_at_call 22; refine (HOP.out _ (by omega) _).mono ?_; rintro e_ w5 ⟨rfl, nd, rfl⟩; have HS2 := Aside0.mk (HS.out.more (pw_below_drewN (Below.refl _ _) nd)); clear HS; generalize World.drewN _ _ = w5 at HS2 ⊢) | (go_at_call 67; refine (start_calls w0 _ g (some ad) l.length c s vs vl vc HS2.out).mono ?_; rintro e_ w6 ⟨vs3, rfl, hb⟩; have HW := Aside0.mk (show WS w0 w6 g (some ad) l.length c (startS s) vs3 vl vc from hb).wb; clear hb HS2))
          have HL2 := Aside0.mk (show (startS s).lv.length < 1000000 ∧ (startS s).cl.length < 1000000 from HL.out);clear HL HM;have HL := HL2;clear HL2;rw [show sepS s 10 = {startS s with lv := (startS s).lv ++ [(startS s).base], cl := (startS s).cl ++ [10]} from rfl] at HF2 HG2;have HFX := Aside0.mk (And.intro HF2.out HG2.out);clear HF2 HG2 HI HV HE;generalize startS s = s at HW HL HFX ⊢;generalize vs3 = vs at HW ⊢;have HWB := Aside0.mk (HW.out.more (below_drew1 (Below.refl _ _)));refine start_ (n := 25) (S := fun w' => w'.heap[g]? = some (.cells #[.int .i64 s.base, vs, .int .i64 s.isol, .int .i64 s.emb, .int .i64 s.val, .int .i64 s.most, vl, vc, .slice (some ad) l.length c] 78 (0, 0))) (ds := [21, 24]) #[false, false, false, false, false, false, false, false, false, false, false, false, false, false, false, false, false, false, false, false, false, false, false, false, false] (by kernel_rfl) rfl rfl HWB.out.blk (fun hHeld => ?_);generalize w6.drew = k0 at hHeld HWB ⊢;clear HW;refine pK 0 97 ?_;refine pK 1 98 ?_;refine pK 2 99 ?_;refine pK 3 100 ?_;refine pK 4 101 ?_;refine tK 5 102 hHeld (hr := by rintro w' hS; have a1 := blk_cell hS 6; go_simp; with_reducible rfl) (h := ?_);refine pK 6 103 ?_;refine pK 7 104 ?_;refine pK 8 105 ?_;refine tK 9 106 hHeld (hr := by rintro w' hS; have a1 := blk_cell hS 0; go_simp; with_reducible rfl) (h := ?_);refine pK 12 109 ?_;refine pK 13 110 ?_;refine pK 14 111 ?_;refine tK 15 112 hHeld (hr := by rintro w' hS; have a1 := blk_cell hS 7; go_simp; with_reducible rfl) (h := ?_);refine pK 16 113 ?_;refine join_ (σ := Option Addr × Nat × Nat × Nat) 7 #[true, true, true, true, true, true, true, true, true, true, true, true, true, true, true, true, true, true, false, false, false, false, false, false, false] (fun s_ => [(107, .slice (some ⟨s_.2.2.1, 0, none⟩) 1 1), (108, .slice s_.1 (s.lv.length + 1) s_.2.1), (114, .slice (some ⟨s_.2.2.2, 0, none⟩) 1 1)]) (fun s_ w' => WB w0 w' g (some ad) l.length c s vs vl vc vs (.slice s_.1 (s.lv.length + 1) s_.2.1) vc s.stack (s.lv ++ [s.base]) s.cl ∧ Bx w' (.slice s_.1 (s.lv.length + 1) s_.2.1) vc s_.2.2.2 10) ?_ ?_;rotate_left
          · skip
            intro hCont;refine two_ (i := 10) (j := 17) (Ni := some 107) (Nj := some 114) #[true, true, true, true, true, true, true, true, true, true, true, false, true, true, true, true, true, false, false, false, false, false, false, false, false] #[true, true, true, true, true, true, true, true, true, true, false, false, true, true, true, true, true, true, false, false, false, false, false, false, false] rfl rfl rfl rfl (by kernel_rfl) (by decide) (by decide) (fun K hK => ?_) (fun K hK => ?_)
            · skip
              refine box1_step (x := s.base) (by rfl) (N := 107) rfl (by first | (go_simp; done) | (go_simp; rfl)) ?_;intro kHBA w1 hk hb1 hb;have HBA := Aside0.mk (Bx.made HWB.out hk hb1);have HWB2 := Aside0.mk (HWB.out.more hb);clear hb hb1 hk HWB;have HWB := HWB2;clear HWB2;refine hK.out _ _ HWB.out.blk (fun hHeld => ?_);clear hK K;refine norm_ (a' := ?_) ?_ ?_;rotate_left
              · show Act.put _ (some 107) _ = _
                simp only [Act.put, List.setIfInBounds_toArray, List.set_cons_zero, List.set_cons_succ, i64_w, i32_w];rfl
              refine two_ (i := 11) (j := 17) (Ni := some 108) (Nj := some 114) #[true, true, true, true, true, true, true, true, true, true, true, true, true, true, true, true, true, false, false, false, false, false, false, false, false] #[true, true, true, true, true, true, true, true, true, true, true, false, true, true, true, true, true, true, false, false, false, false, false, false, false] rfl rfl rfl rfl (by kernel_rfl) (by decide) (by decide) (fun K hK => ?_) (fun K hK => ?_)
              · skip
                refine HWB.out.app_l HBA.out HL.out.1 (by rfl) (.tmp 102) (.tmp 107) rfl rfl rfl ?_;intro ul' w1 hb hg hat;obtain ⟨Al, cpl, rfl⟩ := Kd.R_slice hb.lv;simp only [List.length_append, List.length_singleton] at hb hat ⊢;have HWB2 := Aside0.mk hb;clear hb hg hat HWB HBA;have HWB := HWB2;clear HWB2;refine hK.out _ _ HWB.out.blk (fun hHeld => ?_);clear hK K;refine norm_ (a' := ?_) ?_ ?_;rotate_left
                · show Act.put _ (some 108) _ = _
                  simp only [Act.put, List.setIfInBounds_toArray, List.set_cons_zero, List.set_cons_succ, i64_w, i32_w];rfl
                refine one_ (i := 17) (N := some 114) #[true, true, true, true, true, true, true, true, true, true, true, true, true, true, true, true, true, true, false, false, false, false, false, false, false] rfl rfl (by kernel_rfl) (by decide) (fun K hK => ?_);refine box1_step (x := 10) (by rfl) (N := 114) rfl (by first | (go_simp; done) | (go_simp; rfl)) ?_;intro kHBB w1 hk hb1 hb;have HBB := Aside0.mk (Bx.made HWB.out hk hb1);have HWB2 := Aside0.mk (HWB.out.more hb);clear hb hb1 hk HWB;have HWB := HWB2;clear HWB2;refine hK.out _ _ HWB.out.blk (fun hHeld => ?_);clear hK K;refine norm_ (a' := ?_) ?_ ?_;rotate_left
                · show Act.put _ (some 114) _ = _
                  simp only [Act.put, List.setIfInBounds_toArray, List.set_cons_zero, List.set_cons_succ, i64_w, i32_w];rfl
                exact norm_ (by simp only [putAll, Act.put, List.setIfInBounds_toArray, List.set_cons_zero, List.set_cons_succ]) (hCont (Al, cpl, kHBA, kHBB) _ ⟨HWB.out, HBB.out⟩)
              · skip
                refine box1_step (x := 10) (by rfl) (N := 114) rfl (by first | (go_simp; done) | (go_simp; rfl)) ?_;intro kHBB w1 hk hb1 hb;have HBB := Aside0.mk (Bx.made HWB.out hk hb1);have HBA2 := Aside0.mk (HBA.out.more hb);clear HBA;have HBA := HBA2;clear HBA2;have HWB2 := Aside0.mk (HWB.out.more hb);clear hb hb1 hk HWB;have HWB := HWB2;clear HWB2;refine hK.out _ _ HWB.out.blk (fun hHeld => ?_);clear hK K;refine norm_ (a' := ?_) ?_ ?_;rotate_left
                · show Act.put _ (some 114) _ = _
                  simp only [Act.put, List.setIfInBounds_toArray, List.set_cons_zero, List.set_cons_succ, i64_w, i32_w];rfl
                refine one_ (i := 11) (N := some 108) #[true, true, true, true, true, true, true, true, true, true, true, true, true, true, true, true, true, true, false, false, false, false, false, false, false] rfl rfl (by kernel_rfl) (by decide) (fun K hK => ?_);refine HWB.out.app_l HBA.out HL.out.1 (by rfl) (.tmp 102) (.tmp 107) rfl rfl rfl ?_;intro ul' w1 hb hg hat;obtain ⟨Al, cpl, rfl⟩ := Kd.R_slice hb.lv;simp only [List.length_append, List.length_singleton] at hb hat ⊢;have HBB2 := Aside0.mk (HBB.out.grown_l hg hat);clear HBB;have HBB := HBB2;clear HBB2;have HWB2 := Aside0.mk hb;clear hb hg hat HWB HBA;have HWB := HWB2;clear HWB2;refine hK.out _ _ HWB.out.blk (fun hHeld => ?_);clear hK K;refine norm_ (a' := ?_) ?_ ?_;rotate_left
                · show Act.put _ (some 108) _ = _
                  simp only [Act.put, List.setIfInBounds_toArray, List.set_cons_zero, List.set_cons_succ, i64_w, i32_w];rfl
                exact norm_ (by simp only [putAll, Act.put, List.setIfInBounds_toArray, List.set_cons_zero, List.set_cons_succ]) (hCont (Al, cpl, kHBA, kHBB) _ ⟨HWB.out, HBB.out⟩)
            · skip
              refine box1_step (x := 10) (by rfl) (N := 114) rfl (by first | (go_simp; done) | (go_simp; rfl)) ?_;intro kHBB w1 hk hb1 hb;have HBB := Aside0.mk (Bx.made HWB.out hk hb1);have HWB2 := Aside0.mk (HWB.out.more hb);clear hb hb1 hk HWB;have HWB := HWB2;clear HWB2;refine hK.out _ _ HWB.out.blk (fun hHeld => ?_);clear hK K;refine norm_ (a' := ?_) ?_ ?_;rotate_left
              · show Act.put _ (some 114) _ = _
                simp only [Act.put, List.setIfInBounds_toArray, List.set_cons_zero, List.set_cons_succ, i64_w, i32_w];rfl
              refine one_ (i := 10) (N := some 107) #[true, true, true, true, true, true, true, true, true, true, true, false, true, true, true, true, true, true, false, false, false, false, false, false, false] rfl rfl (by kernel_rfl) (by decide) (fun K hK => ?_);refine box1_step (x := s.base) (by rfl) (N := 107) rfl (by first | (go_simp; done) | (go_simp; rfl)) ?_;intro kHBA w1 hk hb1 hb;have HBA := Aside0.mk (Bx.made HWB.out hk hb1);have HBB2 := Aside0.mk (HBB.out.more hb);clear HBB;have HBB := HBB2;clear HBB2;have HWB2 := Aside0.mk (HWB.out.more hb);clear hb hb1 hk HWB;have HWB := HWB2;clear HWB2;refine hK.out _ _ HWB.out.blk (fun hHeld => ?_);clear hK K;refine norm_ (a' := ?_) ?_ ?_;rotate_left
              · show Act.put _ (some 107) _ = _
                simp only [Act.put, List.setIfInBounds_toArray, List.set_cons_zero, List.set_cons_succ, i64_w, i32_w];rfl
              refine one_ (i := 11) (N := some 108) #[true, true, true, true, true, true, true, true, true, true, true, true, true, true, true, true, true, true, false, false, false, false, false, false, false] rfl rfl (by kernel_rfl) (by decide) (fun K hK => ?_);refine HWB.out.app_l HBA.out HL.out.1 (by rfl) (.tmp 102) (.tmp 107) rfl rfl rfl ?_;intro ul' w1 hb hg hat;obtain ⟨Al, cpl, rfl⟩ := Kd.R_slice hb.lv;simp only [List.length_append, List.length_singleton] at hb hat ⊢;have HBB2 := Aside0.mk (HBB.out.grown_l hg hat);clear HBB;have HBB := HBB2;clear HBB2;have HWB2 := Aside0.mk hb;clear hb hg hat HWB HBA;have HWB := HWB2;clear HWB2;refine hK.out _ _ HWB.out.blk (fun hHeld => ?_);clear hK K;refine norm_ (a' := ?_) ?_ ?_;rotate_left
              · show Act.put _ (some 108) _ = _
                simp only [Act.put, List.setIfInBounds_toArray, List.set_cons_zero, List.set_cons_succ, i64_w, i32_w];rfl
              exact norm_ (by simp only [putAll, Act.put, List.setIfInBounds_toArray, List.set_cons_zero, List.set_cons_succ]) (hCont (Al, cpl, kHBA, kHBB) _ ⟨HWB.out, HBB.out⟩)
          rintro ⟨Al, cpl, kA, kB⟩ w2 ⟨hW, hX⟩;clear HWB hHeld;have HWB := Aside0.mk hW;have HBB := Aside0.mk hX;have hHeld : True := trivial;clear hW hX;refine norm_ (a' := ?_) ?_ ?_;rotate_left
          · simp only [putAll, Act.put, List.setIfInBounds_toArray, List.set_cons_zero, List.set_cons_succ]
            rfl
          refine one_ (i := 18) (N := some 115) #[true, true, true, true, true, true, true, true, true, true, true, true, true, true, true, true, true, true, true, false, false, false, false, false, false] rfl rfl (by kernel_rfl) (by decide) (fun K hK => ?_);refine HWB.out.app_c HBB.out HL.out.2 (by rfl) (.tmp 112) (.tmp 114) rfl rfl rfl ?_;intro uc' w1 hb;obtain ⟨Ac, cpc, rfl⟩ := Kd.R_slice hb.cl;simp only [List.length_append, List.length_singleton] at hb ⊢;have HWB2 := Aside0.mk hb;clear hb HWB HBB;have HWB := HWB2;clear HWB2;refine hK.out _ _ HWB.out.blk (fun hHeld => ?_);clear hK K;refine norm_ (a' := ?_) ?_ ?_;rotate_left
          · show Act.put _ (some 115) _ = _
            simp only [Act.put, List.setIfInBounds_toArray, List.set_cons_zero, List.set_cons_succ, i64_w, i32_w];rfl
          refine pK 19 116 ?_;refine pK 20 117 ?_;have f1 := blk_frozen HWB.out.blk 6;have f2 := blk_cell HWB.out.blk 6;refine last_ (i := 21) (N := none) #[true, true, true, true, true, true, true, true, true, true, true, true, true, true, true, true, true, true, true, true, true, true, false, false, false] rfl rfl (by kernel_rfl) (by decide) (fun K hK => ?_);refine skip_ (w1 := ?_) (by rfl) rfl ?_ ?_;rotate_left
          · go_simp
            rfl
          refine hK.out _ _ ?_;clear hK K;have HW1 := Aside0.mk (HWB.out.put 6 (.slice Al (s.lv.length + 1) cpl) rfl (s' := s) (vs' := vs) (vl' := .slice Al (s.lv.length + 1) cpl) (vc' := vc));clear HWB hHeld f1 f2;generalize World.setCell _ _ _ = w3 at HW1 ⊢;have HWB := HW1;clear HW1;have hHeld : True := trivial;refine pK 22 118 ?_;refine pK 23 119 ?_;have f1 := blk_frozen HWB.out.blk 7;have f2 := blk_cell HWB.out.blk 7;refine last_ (i := 24) (N := none) #[true, true, true, true, true, true, true, true, true, true, true, true, true, true, true, true, true, true, true, true, true, true, true, true, true] rfl rfl (by kernel_rfl) (by decide) (fun K hK => ?_);refine skip_ (w1 := ?_) (by rfl) rfl ?_ ?_;rotate_left
          · go_simp
            rfl
          refine hK.out _ _ ?_;clear hK K;have HW1 := Aside0.mk (HWB.out.put 7 (.slice Ac (s.cl.length + 1) cpc) rfl (s' := s) (vs' := vs) (vl' := .slice Al (s.lv.length + 1) cpl) (vc' := .slice Ac (s.cl.length + 1) cpc));clear HWB hHeld f1 f2;generalize World.setCell _ _ _ = w4 at HW1 ⊢;refine done_ (by kernel_rfl) ?_;generalize Value.slice Al (s.lv.length + 1) cpl = vl2 at HW1 ⊢;generalize Value.slice Ac (s.cl.length + 1) cpc = vc2 at HW1 ⊢;have HS := Aside0.mk (show WS w0 w4 g (some ad) l.length c ({s with lv := s.lv ++ [s.base], cl := s.cl ++ [10]}) vs vl2 vc2 from HW1.out.ws);clear HW1;go_wp2
          first | exact fin _ _ _ _ _ _ rfl HS.out (HFX.out.1) (HFX.out.2) | exact fin _ _ _ _ _ _ HWI.out HS.out (HFX.out.1) (HFX.out.2)
        have e16 : (x == 16) = false := by simpa using x16
        have e14 : (x == 14) = false := by simpa using x14
        have e17 : (x == 17) = false := by simpa using x17
        have e15 : (x == 15) = false := by simpa using x15
        have e22 : (x == 22) = false := by simpa using x22
        have e18 : (x == 18) = false := by simpa using x18
        have e9 : (x == 9) = false := by simpa using x9
        have e10 : (x == 10) = false := by simpa using x10
        by_cases hc : 0 ≤ x ∧ x ≤ 22
        · rw [show stepW s x = putS s x from by unfold stepW; rw [if_neg (by omega), if_neg x22, if_neg x18, if_neg x9, if_neg x10, if_pos hc]] at hG2
          obtain ⟨rW, hW1, hW2⟩ := word_in x hc;have HWD := Aside0.mk (And.intro hW1 hW2);have wb0 : (rW.toList == ([] : List UInt8)) = false := beq_eq_false_iff_ne.mpr hW2;have wb1 : (rW.toList != ([] : List UInt8)) = true := bne_iff_ne.mpr hW2;have HG2 := Aside0.mk hG2;have HF2 := Aside0.mk (HF.out.put x);clear hG2 HF hc hW1 hW2;have HNO := Aside0.mk hno;clear hno x16 x14 x17 x15 x19 x20 x21 x22 x18 x9 x10
          go_wp2_with (first | (go_at_call 22; refine (HOP.out _ HNO.out _).mono ?_; rintro e_ w5 ⟨rfl, nd, rfl⟩; have HS2 := Aside0.mk (HS.out.more (pw_below_drewN (Below.refl _ _) nd)); clear HS; generalize World.drewN _ _ = w5 at HS2 ⊢) | (go_at_call 66; refine (ductusref02_Word.calls x rW _ HWD.out.1).mono ?_; rintro e_ w6 ⟨rfl, hb⟩; have HS3 := Aside0.mk (HS2.out.more hb); clear hb HS2) | (go_at_call 73; refine (put_calls w0 _ g (some ad) l.length c s vs vl vc HS3.out x HM.out HL.out).mono ?_; rintro e_ w7 ⟨vl3, vc3, rfl, hb⟩; have HS4 := Aside0.mk (show WS w0 w7 g (some ad) l.length c (putS s x) vs vl3 vc3 from hb); clear hb HS3))
          first | exact fin _ _ _ _ _ _ rfl HS4.out (HF2.out) (HG2.out) | exact fin _ _ _ _ _ _ HWI.out HS4.out (HF2.out) (HG2.out)
        · rw [show stepW s x = putS s 0 from by unfold stepW; rw [if_neg (by omega), if_neg x22, if_neg x18, if_neg x9, if_neg x10, if_neg hc]] at hG2
          obtain ⟨rW, hW1, hW2⟩ := word_out x hc;have HWD := Aside0.mk (And.intro hW1 hW2);have wb0 : (rW.toList == ([] : List UInt8)) = true := beq_iff_eq.mpr hW2;have wb1 : (rW.toList != ([] : List UInt8)) = false := bne_eq_false_iff_eq.mpr hW2;have HG2 := Aside0.mk hG2;have HF2 := Aside0.mk (HF.out.put 0);clear hG2 HF hc hW1 hW2;have HNO := Aside0.mk hno;clear hno x16 x14 x17 x15 x19 x20 x21 x22 x18 x9 x10
          go_wp2_with (first | (go_at_call 22; refine (HOP.out _ HNO.out _).mono ?_; rintro e_ w5 ⟨rfl, nd, rfl⟩; have HS2 := Aside0.mk (HS.out.more (pw_below_drewN (Below.refl _ _) nd)); clear HS; generalize World.drewN _ _ = w5 at HS2 ⊢) | (go_at_call 66; refine (ductusref02_Word.calls x rW _ HWD.out.1).mono ?_; rintro e_ w6 ⟨rfl, hb⟩; have HS3 := Aside0.mk (HS2.out.more hb); clear hb HS2) | (go_at_call 73; refine (put_calls w0 _ g (some ad) l.length c s vs vl vc HS3.out 0 HM.out HL.out).mono ?_; rintro e_ w7 ⟨vl3, vc3, rfl, hb⟩; have HS4 := Aside0.mk (show WS w0 w7 g (some ad) l.length c (putS s 0) vs vl3 vc3 from hb); clear hb HS3))
          first | exact fin _ _ _ _ _ _ rfl HS4.out (HF2.out) (HG2.out) | exact fin _ _ _ _ _ _ HWI.out HS4.out (HF2.out) (HG2.out)
      · have hii : i = l.length := by omega
        subst hii;have g1 : decide (((l.length : Nat) : Int) < (l.length : Int)) = false := decide_eq_false (by omega);have hG := HG.out;rw [List.drop_length] at hG
        injection hG with hG
        subst hG;go_wp2;go_ret
        first | exact ⟨g, vs, vl, vc, rfl, HS.out⟩ | exact ⟨rfl, g, vs, vl, vc, HS.out⟩ | exact ⟨g, rfl, vs, vl, vc, HS.out⟩ | exact ⟨g, vs, rfl, vl, vc, HS.out⟩
end Go.Proofs.Ytmjipbmpapcboaa.P
namespace Go.Proofs.Ytmjipbmpapcboaa.P
open Go.RowKit Go.Proofs.YtmjipbmpapcboaaW.PrintWords Go.Proofs.YtmjipbmpapcboaaW.PrintLast Go.Proofs.YtmjipbmpapcboaaW.PrintMore
attribute [local go_sem] ent_f0 ent_f1 ent_f2
set_option linter.unusedVariables false
set_option linter.unusedSimpArgs false
def ductusref06_Of.f (k : Nat) (l : List Int) (b : Int) : Option (List Int × List Int) := if l.length ≤ 50000 then (goW k l l 0 (s0W b)).bind fun s => some (s.lv, s.cl) else none
theorem ductusref06_Of.calls (k : Nat) (A0 : Option Addr) (c0 : Nat) (l0 : List Int) (a1 : Int) (r1 : List Int) (r2 : List Int) (w : World) (hr0 : Kd.C (Kd.int .i64) w A0 l0.length l0) (hc0 : l0.length ≤ c0) (h : ductusref06_Of.f k l0 a1 = some (r1, r2)) :
    Calls Try.prog 38 #[.slice A0 l0.length c0, .int .i64 a1] w fun e w' => ∃ v0_ v1_ : Value, e = .returned (.tuple #[v0_, v1_]) ∧ Kd.R (Kd.int .i64) 3 w' w.heap.size (fun k_ => some k_ ≠ (v1_ : Value).ownBlock) v0_ r1 ∧ Kd.R (Kd.int .i64) 3 w' w.heap.size (fun k_ => some k_ ≠ (v0_ : Value).ownBlock) v1_ r2 ∧ Below w.heap.size w w' := by
  unfold ductusref06_Of.f at h
  by_cases hl : l0.length ≤ 50000
  rotate_left
  · rw [if_neg hl] at h
    cases h
  rw [if_pos hl] at h;obtain ⟨s, hs, h⟩ := Option.bind_eq_some_iff.1 h
  injection h with h
  injection h with h1 h2
  subst h1 h2;have hu2 := Try.underlying78;have HW := Aside0.mk (went_calls w k A0 l0.length c0 l0 a1 s rfl hr0 hc0 hl hs);clear hr0 hc0 hl hs
  go_enter Try.func38, Try.ntmps38
  go_upto_region 2 with (first | (go_at_call 50; refine HW.out.mono ?_; rintro e_ w2 ⟨g, vs, vl, vc, rfl, hb⟩; have HS := Aside0.mk hb; clear hb HW))
  have HWB := Aside0.mk (HS.out.more (below_drew1 (Below.refl _ _)));refine start_ (n := 10) (S := fun w' => WS w w' g A0 l0.length c0 s vs vl vc) (ds := []) #[false, false, false, false, false, false, false, false, false, false] (by kernel_rfl) rfl rfl HWB.out (fun hHeld => ?_);generalize w2.drew = k0 at hHeld HWB ⊢;clear HS;refine pK 0 10 ?_;refine pK 1 11 ?_;refine pK 2 12 ?_;refine tK 3 13 hHeld (hr := by rintro w' hS; have a1 := blk_cell hS.blk 6; go_simp; with_reducible rfl) (h := ?_);refine pK 4 14 ?_;refine pK 5 15 ?_;refine pK 6 16 ?_;refine tK 7 17 hHeld (hr := by rintro w' hS; have a1 := blk_cell hS.blk 7; go_simp; with_reducible rfl) (h := ?_);refine pK 8 4 ?_;refine pK 9 5 ?_;refine done_ (by kernel_rfl) ?_;clear hHeld;go_wp2;go_ret2;have hz := HWB.out;exact ⟨vl, vc, rfl, hz.lv, hz.cl, hz.below⟩
end Go.Proofs.Ytmjipbmpapcboaa.P
