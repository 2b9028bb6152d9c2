/- Proved: the theorems below, each under its own conditions. -/
import Derived.Test.YtmjipbmpapcboaaC27
set_option maxHeartbeats 8000000
set_option maxRecDepth 100000
namespace Go.Proofs.Ytmjipbmpapcboaa.P
open Go.RowKit Go.Proofs.YtmjipbmpapcboaaW.PrintWords Go.Proofs.YtmjipbmpapcboaaW.PrintLast Go.Proofs.YtmjipbmpapcboaaW.PrintMore
attribute [local go_sem] ent_f0 ent_f1 ent_f2
set_option linter.unusedVariables false
set_option linter.unusedSimpArgs false
theorem embed_calls (w0 w : World) (g : Nat) (A : Option Addr) (n c : Nat) (s : WSt) (vs vl vc : Value) (h : WS w0 w g A n c s vs vl vc) (x : Int) (hm : 0 < s.stack.length ∧ s.stack.length < 100000) (hl : s.lv.length < 1000000 ∧ s.cl.length < 1000000) (he : 0 ≤ s.emb ∧ s.emb < 100000) :
    Calls Try.prog 68 #[.pointer (some ⟨g, 0, none⟩), .int .i64 x] w fun e w' => ∃ vs' vl' vc', e = .returned (.tuple #[]) ∧ WS w0 w' g A n c (embedS s x) vs' vl' vc' := by
  have hu := Try.underlying96;have hu2 := Try.underlying78;have hu3 := Try.underlying76;have HM := Aside0.mk hm;have HL := Aside0.mk hl;have HW := Aside0.mk h.wb;clear h hm hl;have HE := Aside0.mk he;clear he;generalize hz : embedS s x = z;have HZ := Aside0.mk hz;clear hz
  go_enter Try.func68, Try.ntmps68
  go_upto_region 0 with (fail)
  have HWB := Aside0.mk (HW.out.more (below_drew1 (Below.refl _ _)));refine start_ (n := 24) (S := fun w' => w'.heap[g]? = some (.cells #[.int .i64 s.base, vs, .int .i64 s.isol, .int .i64 s.emb, .int .i64 s.val, .int .i64 s.most, vl, vc, .slice A n c] 78 (0, 0))) (ds := [20, 23]) #[false, false, false, false, false, false, false, false, false, false, false, false, false, false, false, false, false, false, false, false, false, false, false, false] (by kernel_rfl) rfl rfl HWB.out.blk (fun hHeld => ?_);generalize w.drew = k0 at hHeld HWB ⊢;clear HW;refine pK 0 7 ?_;refine pK 1 8 ?_;refine pK 2 9 ?_;refine pK 3 10 ?_;refine pK 4 11 ?_;refine tK 5 12 hHeld (hr := by rintro w' hS; have a1 := blk_cell hS 6; go_simp; with_reducible rfl) (h := ?_);refine pK 6 13 ?_;refine pK 11 18 ?_;refine pK 12 19 ?_;refine pK 13 20 ?_;refine tK 14 21 hHeld (hr := by rintro w' hS; have a1 := blk_cell hS 7; go_simp; with_reducible rfl) (h := ?_);refine pK 15 22 ?_;refine join_ (σ := Option Addr × Nat × Nat × Nat) 7 #[true, true, true, true, true, true, true, true, true, true, true, true, true, true, true, true, true, false, false, false, false, false, false, false] (fun s_ => [(14, .agg #[.int .i64 (tp s).f0, .int .i64 (tp s).f1, .bool (tp s).f2]), (15, .int .i64 (tp s).f0), (16, .slice (some ⟨s_.2.2.1, 0, none⟩) 1 1), (17, .slice s_.1 (s.lv.length + 1) s_.2.1), (23, .slice (some ⟨s_.2.2.2, 0, none⟩) 1 1)]) (fun s_ w' => WB w0 w' g A n c s vs vl vc vs (.slice s_.1 (s.lv.length + 1) s_.2.1) vc s.stack (s.lv ++ [(tp s).f0]) s.cl ∧ Bx w' (.slice s_.1 (s.lv.length + 1) s_.2.1) vc s_.2.2.2 x) ?_ ?_;rotate_left
  · skip
    intro hCont;refine two_ (i := 7) (j := 16) (Ni := some 14) (Nj := some 23) #[true, true, true, true, true, true, true, true, false, false, false, true, true, true, true, true, false, false, false, false, false, false, false, false] #[true, true, true, true, true, true, true, false, false, false, false, true, true, true, true, true, true, false, false, false, false, false, false, false] rfl rfl rfl rfl (by kernel_rfl) (by decide) (by decide) (fun K hK => ?_) (fun K hK => ?_)
    · skip
      refine goes_ Try.func72 (by kernel_rfl) rfl #[.pointer (some ⟨g, 0, none⟩)] (by rfl) rfl rfl (by (try simp only [List.map_toArray, List.map_cons, List.map_nil]); rfl) ?_;refine (top_b HWB.out HM.out).mono ?_;rintro e_ k1 ⟨rfl, hb⟩;refine ⟨_, rfl, ?_⟩;have HWB2 := Aside0.mk (HWB.out.more hb);clear hb HWB;have HWB := HWB2;clear HWB2;refine hK.out _ _ HWB.out.blk (fun hHeld => ?_);clear hK K;refine norm_ (a' := ?_) ?_ ?_;rotate_left
      · show Act.put _ (some 14) _ = _
        simp only [Act.put, List.setIfInBounds_toArray, List.set_cons_zero, List.set_cons_succ, i64_w, i32_w];rfl
      refine pK 8 15 ?_;refine two_ (i := 9) (j := 16) (Ni := some 16) (Nj := some 23) #[true, true, true, true, true, true, true, true, true, true, false, true, true, true, true, true, false, false, false, false, false, false, false, false] #[true, true, true, true, true, true, true, true, true, false, false, true, true, true, true, true, true, false, false, false, false, false, false, false] rfl rfl rfl rfl (by kernel_rfl) (by decide) (by decide) (fun K hK => ?_) (fun K hK => ?_)
      · skip
        refine box1_step (x := (tp s).f0) (by rfl) (N := 16) rfl (by first | (go_simp; done) | (go_simp; rfl)) ?_;intro kHBA w1 hk hb1 hb;have HBA := Aside0.mk (Bx.made HWB.out hk hb1);have HWB2 := Aside0.mk (HWB.out.more hb);clear hb hb1 hk HWB;have HWB := HWB2;clear HWB2;refine hK.out _ _ HWB.out.blk (fun hHeld => ?_);clear hK K;refine norm_ (a' := ?_) ?_ ?_;rotate_left
        · show Act.put _ (some 16) _ = _
          simp only [Act.put, List.setIfInBounds_toArray, List.set_cons_zero, List.set_cons_succ, i64_w, i32_w];rfl
        refine two_ (i := 10) (j := 16) (Ni := some 17) (Nj := some 23) #[true, true, true, true, true, true, true, true, true, true, true, true, true, true, true, true, false, false, false, false, false, false, false, false] #[true, true, true, true, true, true, true, true, true, true, false, true, true, true, true, true, true, false, false, false, false, false, false, false] rfl rfl rfl rfl (by kernel_rfl) (by decide) (by decide) (fun K hK => ?_) (fun K hK => ?_)
        · skip
          refine HWB.out.app_l HBA.out HL.out.1 (by rfl) (.tmp 12) (.tmp 16) rfl rfl rfl ?_;intro ul' w1 hb hg hat;obtain ⟨Al, cpl, rfl⟩ := Kd.R_slice hb.lv;simp only [List.length_append, List.length_singleton] at hb hat ⊢;have HWB2 := Aside0.mk hb;clear hb hg hat HWB HBA;have HWB := HWB2;clear HWB2;refine hK.out _ _ HWB.out.blk (fun hHeld => ?_);clear hK K;refine norm_ (a' := ?_) ?_ ?_;rotate_left
          · show Act.put _ (some 17) _ = _
            simp only [Act.put, List.setIfInBounds_toArray, List.set_cons_zero, List.set_cons_succ, i64_w, i32_w];rfl
          refine one_ (i := 16) (N := some 23) #[true, true, true, true, true, true, true, true, true, true, true, true, true, true, true, true, true, false, false, false, false, false, false, false] rfl rfl (by kernel_rfl) (by decide) (fun K hK => ?_);refine box1_step (x := x) (by rfl) (N := 23) rfl (by first | (go_simp; done) | (go_simp; rfl)) ?_;intro kHBB w1 hk hb1 hb;have HBB := Aside0.mk (Bx.made HWB.out hk hb1);have HWB2 := Aside0.mk (HWB.out.more hb);clear hb hb1 hk HWB;have HWB := HWB2;clear HWB2;refine hK.out _ _ HWB.out.blk (fun hHeld => ?_);clear hK K;refine norm_ (a' := ?_) ?_ ?_;rotate_left
          · show Act.put _ (some 23) _ = _
            simp only [Act.put, List.setIfInBounds_toArray, List.set_cons_zero, List.set_cons_succ, i64_w, i32_w];rfl
          exact norm_ (by simp only [putAll, Act.put, List.setIfInBounds_toArray, List.set_cons_zero, List.set_cons_succ]) (hCont (Al, cpl, kHBA, kHBB) _ ⟨HWB.out, HBB.out⟩)
        · skip
          refine box1_step (x := x) (by rfl) (N := 23) rfl (by first | (go_simp; done) | (go_simp; rfl)) ?_;intro kHBB w1 hk hb1 hb;have HBB := Aside0.mk (Bx.made HWB.out hk hb1);have HBA2 := Aside0.mk (HBA.out.more hb);clear HBA;have HBA := HBA2;clear HBA2;have HWB2 := Aside0.mk (HWB.out.more hb);clear hb hb1 hk HWB;have HWB := HWB2;clear HWB2;refine hK.out _ _ HWB.out.blk (fun hHeld => ?_);clear hK K;refine norm_ (a' := ?_) ?_ ?_;rotate_left
          · show Act.put _ (some 23) _ = _
            simp only [Act.put, List.setIfInBounds_toArray, List.set_cons_zero, List.set_cons_succ, i64_w, i32_w];rfl
          refine one_ (i := 10) (N := some 17) #[true, true, true, true, true, true, true, true, true, true, true, true, true, true, true, true, true, false, false, false, false, false, false, false] rfl rfl (by kernel_rfl) (by decide) (fun K hK => ?_);refine HWB.out.app_l HBA.out HL.out.1 (by rfl) (.tmp 12) (.tmp 16) rfl rfl rfl ?_;intro ul' w1 hb hg hat;obtain ⟨Al, cpl, rfl⟩ := Kd.R_slice hb.lv;simp only [List.length_append, List.length_singleton] at hb hat ⊢;have HBB2 := Aside0.mk (HBB.out.grown_l hg hat);clear HBB;have HBB := HBB2;clear HBB2;have HWB2 := Aside0.mk hb;clear hb hg hat HWB HBA;have HWB := HWB2;clear HWB2;refine hK.out _ _ HWB.out.blk (fun hHeld => ?_);clear hK K;refine norm_ (a' := ?_) ?_ ?_;rotate_left
          · show Act.put _ (some 17) _ = _
            simp only [Act.put, List.setIfInBounds_toArray, List.set_cons_zero, List.set_cons_succ, i64_w, i32_w];rfl
          exact norm_ (by simp only [putAll, Act.put, List.setIfInBounds_toArray, List.set_cons_zero, List.set_cons_succ]) (hCont (Al, cpl, kHBA, kHBB) _ ⟨HWB.out, HBB.out⟩)
      · skip
        refine box1_step (x := x) (by rfl) (N := 23) rfl (by first | (go_simp; done) | (go_simp; rfl)) ?_;intro kHBB w1 hk hb1 hb;have HBB := Aside0.mk (Bx.made HWB.out hk hb1);have HWB2 := Aside0.mk (HWB.out.more hb);clear hb hb1 hk HWB;have HWB := HWB2;clear HWB2;refine hK.out _ _ HWB.out.blk (fun hHeld => ?_);clear hK K;refine norm_ (a' := ?_) ?_ ?_;rotate_left
        · show Act.put _ (some 23) _ = _
          simp only [Act.put, List.setIfInBounds_toArray, List.set_cons_zero, List.set_cons_succ, i64_w, i32_w];rfl
        refine one_ (i := 9) (N := some 16) #[true, true, true, true, true, true, true, true, true, true, false, true, true, true, true, true, true, false, false, false, false, false, false, false] rfl rfl (by kernel_rfl) (by decide) (fun K hK => ?_);refine box1_step (x := (tp s).f0) (by rfl) (N := 16) rfl (by first | (go_simp; done) | (go_simp; rfl)) ?_;intro kHBA w1 hk hb1 hb;have HBA := Aside0.mk (Bx.made HWB.out hk hb1);have HBB2 := Aside0.mk (HBB.out.more hb);clear HBB;have HBB := HBB2;clear HBB2;have HWB2 := Aside0.mk (HWB.out.more hb);clear hb hb1 hk HWB;have HWB := HWB2;clear HWB2;refine hK.out _ _ HWB.out.blk (fun hHeld => ?_);clear hK K;refine norm_ (a' := ?_) ?_ ?_;rotate_left
        · show Act.put _ (some 16) _ = _
          simp only [Act.put, List.setIfInBounds_toArray, List.set_cons_zero, List.set_cons_succ, i64_w, i32_w];rfl
        refine one_ (i := 10) (N := some 17) #[true, true, true, true, true, true, true, true, true, true, true, true, true, true, true, true, true, false, false, false, false, false, false, false] rfl rfl (by kernel_rfl) (by decide) (fun K hK => ?_);refine HWB.out.app_l HBA.out HL.out.1 (by rfl) (.tmp 12) (.tmp 16) rfl rfl rfl ?_;intro ul' w1 hb hg hat;obtain ⟨Al, cpl, rfl⟩ := Kd.R_slice hb.lv;simp only [List.length_append, List.length_singleton] at hb hat ⊢;have HBB2 := Aside0.mk (HBB.out.grown_l hg hat);clear HBB;have HBB := HBB2;clear HBB2;have HWB2 := Aside0.mk hb;clear hb hg hat HWB HBA;have HWB := HWB2;clear HWB2;refine hK.out _ _ HWB.out.blk (fun hHeld => ?_);clear hK K;refine norm_ (a' := ?_) ?_ ?_;rotate_left
        · show Act.put _ (some 17) _ = _
          simp only [Act.put, List.setIfInBounds_toArray, List.set_cons_zero, List.set_cons_succ, i64_w, i32_w];rfl
        exact norm_ (by simp only [putAll, Act.put, List.setIfInBounds_toArray, List.set_cons_zero, List.set_cons_succ]) (hCont (Al, cpl, kHBA, kHBB) _ ⟨HWB.out, HBB.out⟩)
    · skip
      refine box1_step (x := x) (by rfl) (N := 23) rfl (by first | (go_simp; done) | (go_simp; rfl)) ?_;intro kHBB w1 hk hb1 hb;have HBB := Aside0.mk (Bx.made HWB.out hk hb1);have HWB2 := Aside0.mk (HWB.out.more hb);clear hb hb1 hk HWB;have HWB := HWB2;clear HWB2;refine hK.out _ _ HWB.out.blk (fun hHeld => ?_);clear hK K;refine norm_ (a' := ?_) ?_ ?_;rotate_left
      · show Act.put _ (some 23) _ = _
        simp only [Act.put, List.setIfInBounds_toArray, List.set_cons_zero, List.set_cons_succ, i64_w, i32_w];rfl
      refine one_ (i := 7) (N := some 14) #[true, true, true, true, true, true, true, true, false, false, false, true, true, true, true, true, true, false, false, false, false, false, false, false] rfl rfl (by kernel_rfl) (by decide) (fun K hK => ?_);refine goes_ Try.func72 (by kernel_rfl) rfl #[.pointer (some ⟨g, 0, none⟩)] (by rfl) rfl rfl (by (try simp only [List.map_toArray, List.map_cons, List.map_nil]); rfl) ?_;refine (top_b HWB.out HM.out).mono ?_;rintro e_ k1 ⟨rfl, hb⟩;refine ⟨_, rfl, ?_⟩;have HWB2 := Aside0.mk (HWB.out.more hb);have HBB2 := Aside0.mk (HBB.out.more hb);clear HBB;have HBB := HBB2;clear HBB2;clear hb HWB;have HWB := HWB2;clear HWB2;refine hK.out _ _ HWB.out.blk (fun hHeld => ?_);clear hK K;refine norm_ (a' := ?_) ?_ ?_;rotate_left
      · show Act.put _ (some 14) _ = _
        simp only [Act.put, List.setIfInBounds_toArray, List.set_cons_zero, List.set_cons_succ, i64_w, i32_w];rfl
      refine pK 8 15 ?_;refine one_ (i := 9) (N := some 16) #[true, true, true, true, true, true, true, true, true, true, false, true, true, true, true, true, true, false, false, false, false, false, false, false] rfl rfl (by kernel_rfl) (by decide) (fun K hK => ?_);refine box1_step (x := (tp s).f0) (by rfl) (N := 16) rfl (by first | (go_simp; done) | (go_simp; rfl)) ?_;intro kHBA w1 hk hb1 hb;have HBA := Aside0.mk (Bx.made HWB.out hk hb1);have HBB2 := Aside0.mk (HBB.out.more hb);clear HBB;have HBB := HBB2;clear HBB2;have HWB2 := Aside0.mk (HWB.out.more hb);clear hb hb1 hk HWB;have HWB := HWB2;clear HWB2;refine hK.out _ _ HWB.out.blk (fun hHeld => ?_);clear hK K;refine norm_ (a' := ?_) ?_ ?_;rotate_left
      · show Act.put _ (some 16) _ = _
        simp only [Act.put, List.setIfInBounds_toArray, List.set_cons_zero, List.set_cons_succ, i64_w, i32_w];rfl
      refine one_ (i := 10) (N := some 17) #[true, true, true, true, true, true, true, true, true, true, true, true, true, true, true, true, true, false, false, false, false, false, false, false] rfl rfl (by kernel_rfl) (by decide) (fun K hK => ?_);refine HWB.out.app_l HBA.out HL.out.1 (by rfl) (.tmp 12) (.tmp 16) rfl rfl rfl ?_;intro ul' w1 hb hg hat;obtain ⟨Al, cpl, rfl⟩ := Kd.R_slice hb.lv;simp only [List.length_append, List.length_singleton] at hb hat ⊢;have HBB2 := Aside0.mk (HBB.out.grown_l hg hat);clear HBB;have HBB := HBB2;clear HBB2;have HWB2 := Aside0.mk hb;clear hb hg hat HWB HBA;have HWB := HWB2;clear HWB2;refine hK.out _ _ HWB.out.blk (fun hHeld => ?_);clear hK K;refine norm_ (a' := ?_) ?_ ?_;rotate_left
      · show Act.put _ (some 17) _ = _
        simp only [Act.put, List.setIfInBounds_toArray, List.set_cons_zero, List.set_cons_succ, i64_w, i32_w];rfl
      exact norm_ (by simp only [putAll, Act.put, List.setIfInBounds_toArray, List.set_cons_zero, List.set_cons_succ]) (hCont (Al, cpl, kHBA, kHBB) _ ⟨HWB.out, HBB.out⟩)
  rintro ⟨Al, cpl, kA, kB⟩ w2 ⟨hW, hX⟩;clear HWB hHeld;have HWB := Aside0.mk hW;have HBB := Aside0.mk hX;have hHeld : True := trivial;clear hW hX;refine norm_ (a' := ?_) ?_ ?_;rotate_left
  · simp only [putAll, Act.put, List.setIfInBounds_toArray, List.set_cons_zero, List.set_cons_succ]
    rfl
  refine one_ (i := 17) (N := some 24) #[true, true, true, true, true, true, true, true, true, true, true, true, true, true, true, true, true, true, false, false, false, false, false, false] rfl rfl (by kernel_rfl) (by decide) (fun K hK => ?_);refine HWB.out.app_c HBB.out HL.out.2 (by rfl) (.tmp 21) (.tmp 23) rfl rfl rfl ?_;intro uc' w1 hb;obtain ⟨Ac, cpc, rfl⟩ := Kd.R_slice hb.cl;simp only [List.length_append, List.length_singleton] at hb ⊢;have HWB2 := Aside0.mk hb;clear hb HWB HBB;have HWB := HWB2;clear HWB2;refine hK.out _ _ HWB.out.blk (fun hHeld => ?_);clear hK K;refine norm_ (a' := ?_) ?_ ?_;rotate_left
  · show Act.put _ (some 24) _ = _
    simp only [Act.put, List.setIfInBounds_toArray, List.set_cons_zero, List.set_cons_succ, i64_w, i32_w];rfl
  refine pK 18 25 ?_;refine pK 19 26 ?_;have f1 := blk_frozen HWB.out.blk 6;have f2 := blk_cell HWB.out.blk 6;refine last_ (i := 20) (N := none) #[true, true, true, true, true, true, true, true, true, true, true, true, true, true, true, true, true, true, true, true, true, false, false, false] rfl rfl (by kernel_rfl) (by decide) (fun K hK => ?_);refine skip_ (w1 := ?_) (by rfl) rfl ?_ ?_;rotate_left
  · go_simp
    rfl
  refine hK.out _ _ ?_;clear hK K;have HW1 := Aside0.mk (HWB.out.put 6 (.slice Al (s.lv.length + 1) cpl) rfl (s' := s) (vs' := vs) (vl' := .slice Al (s.lv.length + 1) cpl) (vc' := vc));clear HWB hHeld f1 f2;generalize World.setCell _ _ _ = w3 at HW1 ⊢;have HWB := HW1;clear HW1;have hHeld : True := trivial;refine pK 21 27 ?_;refine pK 22 28 ?_;have f1 := blk_frozen HWB.out.blk 7;have f2 := blk_cell HWB.out.blk 7;refine last_ (i := 23) (N := none) #[true, true, true, true, true, true, true, true, true, true, true, true, true, true, true, true, true, true, true, true, true, true, true, true] rfl rfl (by kernel_rfl) (by decide) (fun K hK => ?_);refine skip_ (w1 := ?_) (by rfl) rfl ?_ ?_;rotate_left
  · go_simp
    rfl
  refine hK.out _ _ ?_;clear hK K;have HW1 := Aside0.mk (HWB.out.put 7 (.slice Ac (s.cl.length + 1) cpc) rfl (s' := s) (vs' := vs) (vl' := .slice Al (s.lv.length + 1) cpl) (vc' := .slice Ac (s.cl.length + 1) cpc));clear HWB hHeld f1 f2;generalize World.setCell _ _ _ = w4 at HW1 ⊢;refine done_ (by kernel_rfl) ?_;generalize Value.slice Al (s.lv.length + 1) cpl = vl2 at HW1 ⊢;generalize Value.slice Ac (s.cl.length + 1) cpc = vc2 at HW1 ⊢;have HS := Aside0.mk (show WS w0 w4 g A n c (bothS s x) vs vl2 vc2 from HW1.out.ws);clear HW1
  have hT : ∀ W, WS w0 W g A n c (bothS s x) vs vl2 vc2 → Calls Try.prog 72 #[.pointer (some ⟨g, 0, none⟩)] W fun e w' => e = .returned (.agg #[.int .i64 (tp s).f0, .int .i64 (tp s).f1, .bool (tp s).f2]) ∧ Below W.heap.size W w' := fun W hh => top_w (s := bothS s x) hh HM.out
  have hw := wrap_emb HE.out
  by_cases x1 : x = 16
  · subst x1
    have hz := HZ.out;unfold embedS at hz;rw [show ofX 16 = 1 from rfl, show overX 16 = -1 from rfl] at hz;clear HZ
    cases hf : fitsB s (nextL (tp s).f0 1) with
    | true =>
      rw [if_pos hf] at hz;have HZ := Aside0.mk hz;clear hz
      go_wp2_with (first
        | (go_at_call 72; refine (hT _ HS.out).mono ?_; rintro e_ w5 ⟨rfl, hb⟩; have HS2 := Aside0.mk (HS.out.more hb); clear hb HS)
        | (go_at_call 85; refine (ductusref06_Next.calls 10 _ _ (nextL (tp s).f0 1) _ (next_eq _ _)).mono ?_; rintro e_ w6 ⟨rfl, nd, rfl⟩; have HS3 := Aside0.mk (HS2.out.more (pw_below_drewN (Below.refl _ _) nd)); clear HS2)
        | (go_at_call 86; refine (fits_calls HS3.out.wb (nextL (tp s).f0 1) true hf).mono ?_; rintro e_ w7 ⟨rfl, hb⟩; have HS4 := Aside0.mk (HS3.out.more hb); clear hb HS3; have a2 := show w7.cell? ⟨g, 2, none⟩ = some (.int .i64 s.isol) from blk_cell HS4.out.blk 2; have a3 := show w7.cell? ⟨g, 3, none⟩ = some (.int .i64 s.emb) from blk_cell HS4.out.blk 3; have f3 := blk_frozen HS4.out.blk 3)
        | (go_at_call 84; refine (push_calls w0 _ g A n c (bothS s 16) vs vl2 vc2 HS4.out ⟨(nextL (tp s).f0 1), -1, false⟩ HM.out.2).mono ?_; rintro e_ w8 ⟨vs3, rfl, hb⟩; have HS5 := Aside0.mk hb; clear hb HS4))
      go_end0
      have hz := HZ.out;subst hz
      first | exact ⟨_, _, _, rfl, HS5.out⟩ | exact ⟨rfl, _, _, _, HS5.out⟩
    | false =>
      rw [if_neg (by rw [hf]; decide)] at hz
      by_cases hi : s.isol = 0
      · rw [if_pos hi] at hz
        have e2 : (s.isol == 0) = true := by simpa using hi
        have HZ := Aside0.mk hz;clear hz hi
        go_wp2_with (first
          | (go_at_call 72; refine (hT _ HS.out).mono ?_; rintro e_ w5 ⟨rfl, hb⟩; have HS2 := Aside0.mk (HS.out.more hb); clear hb HS)
          | (go_at_call 85; refine (ductusref06_Next.calls 10 _ _ (nextL (tp s).f0 1) _ (next_eq _ _)).mono ?_; rintro e_ w6 ⟨rfl, nd, rfl⟩; have HS3 := Aside0.mk (HS2.out.more (pw_below_drewN (Below.refl _ _) nd)); clear HS2)
          | (go_at_call 86; refine (fits_calls HS3.out.wb (nextL (tp s).f0 1) false hf).mono ?_; rintro e_ w7 ⟨rfl, hb⟩; have HS4 := Aside0.mk (HS3.out.more hb); clear hb HS3; have a2 := show w7.cell? ⟨g, 2, none⟩ = some (.int .i64 s.isol) from blk_cell HS4.out.blk 2; have a3 := show w7.cell? ⟨g, 3, none⟩ = some (.int .i64 s.emb) from blk_cell HS4.out.blk 3; have f3 := blk_frozen HS4.out.blk 3))
        go_end0
        have hz := HZ.out;subst hz;exact ⟨_, _, _, rfl, (HS4.out.put 3 _ (s' := {bothS s 16 with emb := s.emb + 1}) (vs' := vs) (vl' := vl2) (vc' := vc2) (by first | rfl | (rw [hw]; rfl)) HS4.out.st HS4.out.lv HS4.out.cl)⟩
      · rw [if_neg hi] at hz
        have e2 : (s.isol == 0) = false := by simpa using hi
        have HZ := Aside0.mk hz;clear hz hi
        go_wp2_with (first
          | (go_at_call 72; refine (hT _ HS.out).mono ?_; rintro e_ w5 ⟨rfl, hb⟩; have HS2 := Aside0.mk (HS.out.more hb); clear hb HS)
          | (go_at_call 85; refine (ductusref06_Next.calls 10 _ _ (nextL (tp s).f0 1) _ (next_eq _ _)).mono ?_; rintro e_ w6 ⟨rfl, nd, rfl⟩; have HS3 := Aside0.mk (HS2.out.more (pw_below_drewN (Below.refl _ _) nd)); clear HS2)
          | (go_at_call 86; refine (fits_calls HS3.out.wb (nextL (tp s).f0 1) false hf).mono ?_; rintro e_ w7 ⟨rfl, hb⟩; have HS4 := Aside0.mk (HS3.out.more hb); clear hb HS3; have a2 := show w7.cell? ⟨g, 2, none⟩ = some (.int .i64 s.isol) from blk_cell HS4.out.blk 2; have a3 := show w7.cell? ⟨g, 3, none⟩ = some (.int .i64 s.emb) from blk_cell HS4.out.blk 3; have f3 := blk_frozen HS4.out.blk 3))
        go_end0
        have hz := HZ.out;subst hz;exact ⟨_, _, _, rfl, HS4.out⟩
  by_cases x2 : x = 17
  · subst x2
    have hz := HZ.out;unfold embedS at hz;rw [show ofX 17 = 1 from rfl, show overX 17 = 1 from rfl] at hz;clear HZ
    cases hf : fitsB s (nextL (tp s).f0 1) with
    | true =>
      rw [if_pos hf] at hz;have HZ := Aside0.mk hz;clear hz
      go_wp2_with (first
        | (go_at_call 72; refine (hT _ HS.out).mono ?_; rintro e_ w5 ⟨rfl, hb⟩; have HS2 := Aside0.mk (HS.out.more hb); clear hb HS)
        | (go_at_call 85; refine (ductusref06_Next.calls 10 _ _ (nextL (tp s).f0 1) _ (next_eq _ _)).mono ?_; rintro e_ w6 ⟨rfl, nd, rfl⟩; have HS3 := Aside0.mk (HS2.out.more (pw_below_drewN (Below.refl _ _) nd)); clear HS2)
        | (go_at_call 86; refine (fits_calls HS3.out.wb (nextL (tp s).f0 1) true hf).mono ?_; rintro e_ w7 ⟨rfl, hb⟩; have HS4 := Aside0.mk (HS3.out.more hb); clear hb HS3; have a2 := show w7.cell? ⟨g, 2, none⟩ = some (.int .i64 s.isol) from blk_cell HS4.out.blk 2; have a3 := show w7.cell? ⟨g, 3, none⟩ = some (.int .i64 s.emb) from blk_cell HS4.out.blk 3; have f3 := blk_frozen HS4.out.blk 3)
        | (go_at_call 84; refine (push_calls w0 _ g A n c (bothS s 17) vs vl2 vc2 HS4.out ⟨(nextL (tp s).f0 1), 1, false⟩ HM.out.2).mono ?_; rintro e_ w8 ⟨vs3, rfl, hb⟩; have HS5 := Aside0.mk hb; clear hb HS4))
      go_end0
      have hz := HZ.out;subst hz
      first | exact ⟨_, _, _, rfl, HS5.out⟩ | exact ⟨rfl, _, _, _, HS5.out⟩
    | false =>
      rw [if_neg (by rw [hf]; decide)] at hz
      by_cases hi : s.isol = 0
      · rw [if_pos hi] at hz
        have e2 : (s.isol == 0) = true := by simpa using hi
        have HZ := Aside0.mk hz;clear hz hi
        go_wp2_with (first
          | (go_at_call 72; refine (hT _ HS.out).mono ?_; rintro e_ w5 ⟨rfl, hb⟩; have HS2 := Aside0.mk (HS.out.more hb); clear hb HS)
          | (go_at_call 85; refine (ductusref06_Next.calls 10 _ _ (nextL (tp s).f0 1) _ (next_eq _ _)).mono ?_; rintro e_ w6 ⟨rfl, nd, rfl⟩; have HS3 := Aside0.mk (HS2.out.more (pw_below_drewN (Below.refl _ _) nd)); clear HS2)
          | (go_at_call 86; refine (fits_calls HS3.out.wb (nextL (tp s).f0 1) false hf).mono ?_; rintro e_ w7 ⟨rfl, hb⟩; have HS4 := Aside0.mk (HS3.out.more hb); clear hb HS3; have a2 := show w7.cell? ⟨g, 2, none⟩ = some (.int .i64 s.isol) from blk_cell HS4.out.blk 2; have a3 := show w7.cell? ⟨g, 3, none⟩ = some (.int .i64 s.emb) from blk_cell HS4.out.blk 3; have f3 := blk_frozen HS4.out.blk 3))
        go_end0
        have hz := HZ.out;subst hz;exact ⟨_, _, _, rfl, (HS4.out.put 3 _ (s' := {bothS s 17 with emb := s.emb + 1}) (vs' := vs) (vl' := vl2) (vc' := vc2) (by first | rfl | (rw [hw]; rfl)) HS4.out.st HS4.out.lv HS4.out.cl)⟩
      · rw [if_neg hi] at hz
        have e2 : (s.isol == 0) = false := by simpa using hi
        have HZ := Aside0.mk hz;clear hz hi
        go_wp2_with (first
          | (go_at_call 72; refine (hT _ HS.out).mono ?_; rintro e_ w5 ⟨rfl, hb⟩; have HS2 := Aside0.mk (HS.out.more hb); clear hb HS)
          | (go_at_call 85; refine (ductusref06_Next.calls 10 _ _ (nextL (tp s).f0 1) _ (next_eq _ _)).mono ?_; rintro e_ w6 ⟨rfl, nd, rfl⟩; have HS3 := Aside0.mk (HS2.out.more (pw_below_drewN (Below.refl _ _) nd)); clear HS2)
          | (go_at_call 86; refine (fits_calls HS3.out.wb (nextL (tp s).f0 1) false hf).mono ?_; rintro e_ w7 ⟨rfl, hb⟩; have HS4 := Aside0.mk (HS3.out.more hb); clear hb HS3; have a2 := show w7.cell? ⟨g, 2, none⟩ = some (.int .i64 s.isol) from blk_cell HS4.out.blk 2; have a3 := show w7.cell? ⟨g, 3, none⟩ = some (.int .i64 s.emb) from blk_cell HS4.out.blk 3; have f3 := blk_frozen HS4.out.blk 3))
        go_end0
        have hz := HZ.out;subst hz;exact ⟨_, _, _, rfl, HS4.out⟩
  by_cases x3 : x = 15
  · subst x3
    have hz := HZ.out;unfold embedS at hz;rw [show ofX 15 = 0 from rfl, show overX 15 = 0 from rfl] at hz;clear HZ
    cases hf : fitsB s (nextL (tp s).f0 0) with
    | true =>
      rw [if_pos hf] at hz;have HZ := Aside0.mk hz;clear hz
      go_wp2_with (first
        | (go_at_call 72; refine (hT _ HS.out).mono ?_; rintro e_ w5 ⟨rfl, hb⟩; have HS2 := Aside0.mk (HS.out.more hb); clear hb HS)
        | (go_at_call 85; refine (ductusref06_Next.calls 10 _ _ (nextL (tp s).f0 0) _ (next_eq _ _)).mono ?_; rintro e_ w6 ⟨rfl, nd, rfl⟩; have HS3 := Aside0.mk (HS2.out.more (pw_below_drewN (Below.refl _ _) nd)); clear HS2)
        | (go_at_call 86; refine (fits_calls HS3.out.wb (nextL (tp s).f0 0) true hf).mono ?_; rintro e_ w7 ⟨rfl, hb⟩; have HS4 := Aside0.mk (HS3.out.more hb); clear hb HS3; have a2 := show w7.cell? ⟨g, 2, none⟩ = some (.int .i64 s.isol) from blk_cell HS4.out.blk 2; have a3 := show w7.cell? ⟨g, 3, none⟩ = some (.int .i64 s.emb) from blk_cell HS4.out.blk 3; have f3 := blk_frozen HS4.out.blk 3)
        | (go_at_call 84; refine (push_calls w0 _ g A n c (bothS s 15) vs vl2 vc2 HS4.out ⟨(nextL (tp s).f0 0), 0, false⟩ HM.out.2).mono ?_; rintro e_ w8 ⟨vs3, rfl, hb⟩; have HS5 := Aside0.mk hb; clear hb HS4))
      go_end0
      have hz := HZ.out;subst hz
      first | exact ⟨_, _, _, rfl, HS5.out⟩ | exact ⟨rfl, _, _, _, HS5.out⟩
    | false =>
      rw [if_neg (by rw [hf]; decide)] at hz
      by_cases hi : s.isol = 0
      · rw [if_pos hi] at hz
        have e2 : (s.isol == 0) = true := by simpa using hi
        have HZ := Aside0.mk hz;clear hz hi
        go_wp2_with (first
          | (go_at_call 72; refine (hT _ HS.out).mono ?_; rintro e_ w5 ⟨rfl, hb⟩; have HS2 := Aside0.mk (HS.out.more hb); clear hb HS)
          | (go_at_call 85; refine (ductusref06_Next.calls 10 _ _ (nextL (tp s).f0 0) _ (next_eq _ _)).mono ?_; rintro e_ w6 ⟨rfl, nd, rfl⟩; have HS3 := Aside0.mk (HS2.out.more (pw_below_drewN (Below.refl _ _) nd)); clear HS2)
          | (go_at_call 86; refine (fits_calls HS3.out.wb (nextL (tp s).f0 0) false hf).mono ?_; rintro e_ w7 ⟨rfl, hb⟩; have HS4 := Aside0.mk (HS3.out.more hb); clear hb HS3; have a2 := show w7.cell? ⟨g, 2, none⟩ = some (.int .i64 s.isol) from blk_cell HS4.out.blk 2; have a3 := show w7.cell? ⟨g, 3, none⟩ = some (.int .i64 s.emb) from blk_cell HS4.out.blk 3; have f3 := blk_frozen HS4.out.blk 3))
        go_end0
        have hz := HZ.out;subst hz;exact ⟨_, _, _, rfl, (HS4.out.put 3 _ (s' := {bothS s 15 with emb := s.emb + 1}) (vs' := vs) (vl' := vl2) (vc' := vc2) (by first | rfl | (rw [hw]; rfl)) HS4.out.st HS4.out.lv HS4.out.cl)⟩
      · rw [if_neg hi] at hz
        have e2 : (s.isol == 0) = false := by simpa using hi
        have HZ := Aside0.mk hz;clear hz hi
        go_wp2_with (first
          | (go_at_call 72; refine (hT _ HS.out).mono ?_; rintro e_ w5 ⟨rfl, hb⟩; have HS2 := Aside0.mk (HS.out.more hb); clear hb HS)
          | (go_at_call 85; refine (ductusref06_Next.calls 10 _ _ (nextL (tp s).f0 0) _ (next_eq _ _)).mono ?_; rintro e_ w6 ⟨rfl, nd, rfl⟩; have HS3 := Aside0.mk (HS2.out.more (pw_below_drewN (Below.refl _ _) nd)); clear HS2)
          | (go_at_call 86; refine (fits_calls HS3.out.wb (nextL (tp s).f0 0) false hf).mono ?_; rintro e_ w7 ⟨rfl, hb⟩; have HS4 := Aside0.mk (HS3.out.more hb); clear hb HS3; have a2 := show w7.cell? ⟨g, 2, none⟩ = some (.int .i64 s.isol) from blk_cell HS4.out.blk 2; have a3 := show w7.cell? ⟨g, 3, none⟩ = some (.int .i64 s.emb) from blk_cell HS4.out.blk 3; have f3 := blk_frozen HS4.out.blk 3))
        go_end0
        have hz := HZ.out;subst hz;exact ⟨_, _, _, rfl, HS4.out⟩
  have e16 : (x == 16) = false := by simpa using x1
  have e17 : (x == 17) = false := by simpa using x2
  have e15 : (x == 15) = false := by simpa using x3
  have hz := HZ.out;unfold embedS at hz;rw [show ofX x = 0 from if_neg (by omega), show overX x = -1 from by unfold overX; rw [if_neg x2, if_neg x3]] at hz;clear HZ
  cases hf : fitsB s (nextL (tp s).f0 0) with
  | true =>
    rw [if_pos hf] at hz;have HZ := Aside0.mk hz;clear hz
    go_wp2_with (first
      | (go_at_call 72; refine (hT _ HS.out).mono ?_; rintro e_ w5 ⟨rfl, hb⟩; have HS2 := Aside0.mk (HS.out.more hb); clear hb HS)
      | (go_at_call 85; refine (ductusref06_Next.calls 10 _ _ (nextL (tp s).f0 0) _ (next_eq _ _)).mono ?_; rintro e_ w6 ⟨rfl, nd, rfl⟩; have HS3 := Aside0.mk (HS2.out.more (pw_below_drewN (Below.refl _ _) nd)); clear HS2)
      | (go_at_call 86; refine (fits_calls HS3.out.wb (nextL (tp s).f0 0) true hf).mono ?_; rintro e_ w7 ⟨rfl, hb⟩; have HS4 := Aside0.mk (HS3.out.more hb); clear hb HS3; have a2 := show w7.cell? ⟨g, 2, none⟩ = some (.int .i64 s.isol) from blk_cell HS4.out.blk 2; have a3 := show w7.cell? ⟨g, 3, none⟩ = some (.int .i64 s.emb) from blk_cell HS4.out.blk 3; have f3 := blk_frozen HS4.out.blk 3)
      | (go_at_call 84; refine (push_calls w0 _ g A n c (bothS s x) vs vl2 vc2 HS4.out ⟨(nextL (tp s).f0 0), -1, false⟩ HM.out.2).mono ?_; rintro e_ w8 ⟨vs3, rfl, hb⟩; have HS5 := Aside0.mk hb; clear hb HS4))
    go_end0
    have hz := HZ.out;subst hz
    first | exact ⟨_, _, _, rfl, HS5.out⟩ | exact ⟨rfl, _, _, _, HS5.out⟩
  | false =>
    rw [if_neg (by rw [hf]; decide)] at hz
    by_cases hi : s.isol = 0
    · rw [if_pos hi] at hz
      have e2 : (s.isol == 0) = true := by simpa using hi
      have HZ := Aside0.mk hz;clear hz hi
      go_wp2_with (first
        | (go_at_call 72; refine (hT _ HS.out).mono ?_; rintro e_ w5 ⟨rfl, hb⟩; have HS2 := Aside0.mk (HS.out.more hb); clear hb HS)
        | (go_at_call 85; refine (ductusref06_Next.calls 10 _ _ (nextL (tp s).f0 0) _ (next_eq _ _)).mono ?_; rintro e_ w6 ⟨rfl, nd, rfl⟩; have HS3 := Aside0.mk (HS2.out.more (pw_below_drewN (Below.refl _ _) nd)); clear HS2)
        | (go_at_call 86; refine (fits_calls HS3.out.wb (nextL (tp s).f0 0) false hf).mono ?_; rintro e_ w7 ⟨rfl, hb⟩; have HS4 := Aside0.mk (HS3.out.more hb); clear hb HS3; have a2 := show w7.cell? ⟨g, 2, none⟩ = some (.int .i64 s.isol) from blk_cell HS4.out.blk 2; have a3 := show w7.cell? ⟨g, 3, none⟩ = some (.int .i64 s.emb) from blk_cell HS4.out.blk 3; have f3 := blk_frozen HS4.out.blk 3))
      go_end0
      have hz := HZ.out;subst hz;exact ⟨_, _, _, rfl, (HS4.out.put 3 _ (s' := {bothS s x with emb := s.emb + 1}) (vs' := vs) (vl' := vl2) (vc' := vc2) (by first | rfl | (rw [hw]; rfl)) HS4.out.st HS4.out.lv HS4.out.cl)⟩
    · rw [if_neg hi] at hz
      have e2 : (s.isol == 0) = false := by simpa using hi
      have HZ := Aside0.mk hz;clear hz hi
      go_wp2_with (first
        | (go_at_call 72; refine (hT _ HS.out).mono ?_; rintro e_ w5 ⟨rfl, hb⟩; have HS2 := Aside0.mk (HS.out.more hb); clear hb HS)
        | (go_at_call 85; refine (ductusref06_Next.calls 10 _ _ (nextL (tp s).f0 0) _ (next_eq _ _)).mono ?_; rintro e_ w6 ⟨rfl, nd, rfl⟩; have HS3 := Aside0.mk (HS2.out.more (pw_below_drewN (Below.refl _ _) nd)); clear HS2)
        | (go_at_call 86; refine (fits_calls HS3.out.wb (nextL (tp s).f0 0) false hf).mono ?_; rintro e_ w7 ⟨rfl, hb⟩; have HS4 := Aside0.mk (HS3.out.more hb); clear hb HS3; have a2 := show w7.cell? ⟨g, 2, none⟩ = some (.int .i64 s.isol) from blk_cell HS4.out.blk 2; have a3 := show w7.cell? ⟨g, 3, none⟩ = some (.int .i64 s.emb) from blk_cell HS4.out.blk 3; have f3 := blk_frozen HS4.out.blk 3))
      go_end0
      have hz := HZ.out;subst hz;exact ⟨_, _, _, rfl, HS4.out⟩
theorem put_calls (w0 w : World) (g : Nat) (A : Option Addr) (n c : Nat) (s : WSt) (vs vl vc : Value) (h : WS w0 w g A n c s vs vl vc) (x : Int) (hm : 0 < s.stack.length ∧ s.stack.length < 100000) (hl : s.lv.length < 1000000 ∧ s.cl.length < 1000000) :
    Calls Try.prog 73 #[.pointer (some ⟨g, 0, none⟩), .int .i64 x] w fun e w' => ∃ vl' vc', e = .returned (.tuple #[]) ∧ WS w0 w' g A n c {s with lv := s.lv ++ [(tp s).f0], cl := s.cl ++ [if 0 ≤ (tp s).f1 then (tp s).f1 else x]} vs vl' vc' := by
  have hu := Try.underlying96;have hu2 := Try.underlying78;have hu3 := Try.underlying76;have HM := Aside0.mk hm;have HL := Aside0.mk hl;have HW := Aside0.mk h.wb;clear h hm hl;generalize hy : (if 0 ≤ (tp s).f1 then (tp s).f1 else x) = y;have HY := Aside0.mk hy;clear hy
  go_enter Try.func73, Try.ntmps73
  go_upto_region 0 with (fail)
  have HWB := Aside0.mk (HW.out.more (below_drew1 (Below.refl _ _)));refine start_ (n := 13) (S := fun w' => w'.heap[g]? = some (.cells #[.int .i64 s.base, vs, .int .i64 s.isol, .int .i64 s.emb, .int .i64 s.val, .int .i64 s.most, vl, vc, .slice A n c] 78 (0, 0))) (ds := [12]) #[false, false, false, false, false, false, false, false, false, false, false, false, false] (by kernel_rfl) rfl rfl HWB.out.blk (fun hHeld => ?_);generalize w.drew = k0 at hHeld HWB ⊢;clear HW;refine pK 0 4 ?_;refine pK 1 5 ?_;refine pK 2 6 ?_;refine pK 3 7 ?_;refine tK 4 8 hHeld (hr := by rintro w' hS; have a1 := blk_cell hS 6; go_simp; with_reducible rfl) (h := ?_);refine pK 5 9 ?_;refine one_ (i := 6) (N := some 10) #[true, true, true, true, true, true, true, false, false, false, false, false, false] rfl rfl (by kernel_rfl) (by decide) (fun K hK => ?_);refine goes_ Try.func72 (by kernel_rfl) rfl #[.pointer (some ⟨g, 0, none⟩)] (by rfl) rfl rfl (by (try simp only [List.map_toArray, List.map_cons, List.map_nil]); rfl) ?_;refine (top_b HWB.out HM.out).mono ?_;rintro e_ k1 ⟨rfl, hb⟩;refine ⟨_, rfl, ?_⟩;have HWB2 := Aside0.mk (HWB.out.more hb);clear hb HWB;have HWB := HWB2;clear HWB2;refine hK.out _ _ HWB.out.blk (fun hHeld => ?_);clear hK K;refine norm_ (a' := ?_) ?_ ?_;rotate_left
  · show Act.put _ (some 10) _ = _
    simp only [Act.put, List.setIfInBounds_toArray, List.set_cons_zero, List.set_cons_succ, i64_w, i32_w];rfl
  refine pK 7 11 ?_;refine one_ (i := 8) (N := some 12) #[true, true, true, true, true, true, true, true, true, false, false, false, false] rfl rfl (by kernel_rfl) (by decide) (fun K hK => ?_);refine box1_step (x := (tp s).f0) (by rfl) (N := 12) rfl (by first | (go_simp; done) | (go_simp; rfl)) ?_;intro kHBA w1 hk hb1 hb;have HBA := Aside0.mk (Bx.made HWB.out hk hb1);have HWB2 := Aside0.mk (HWB.out.more hb);clear hb hb1 hk HWB;have HWB := HWB2;clear HWB2;refine hK.out _ _ HWB.out.blk (fun hHeld => ?_);clear hK K;refine norm_ (a' := ?_) ?_ ?_;rotate_left
  · show Act.put _ (some 12) _ = _
    simp only [Act.put, List.setIfInBounds_toArray, List.set_cons_zero, List.set_cons_succ, i64_w, i32_w];rfl
  refine one_ (i := 9) (N := some 13) #[true, true, true, true, true, true, true, true, true, true, false, false, false] rfl rfl (by kernel_rfl) (by decide) (fun K hK => ?_);refine HWB.out.app_l HBA.out HL.out.1 (by rfl) (.tmp 8) (.tmp 12) rfl rfl rfl ?_;intro ul' w1 hb hg hat;obtain ⟨Al, cpl, rfl⟩ := Kd.R_slice hb.lv;simp only [List.length_append, List.length_singleton] at hb hat ⊢;have HWB2 := Aside0.mk hb;clear hb hg hat HWB HBA;have HWB := HWB2;clear HWB2;refine hK.out _ _ HWB.out.blk (fun hHeld => ?_);clear hK K;refine norm_ (a' := ?_) ?_ ?_;rotate_left
  · show Act.put _ (some 13) _ = _
    simp only [Act.put, List.setIfInBounds_toArray, List.set_cons_zero, List.set_cons_succ, i64_w, i32_w];rfl
  refine pK 10 14 ?_;refine pK 11 15 ?_;have f1 := blk_frozen HWB.out.blk 6;have f2 := blk_cell HWB.out.blk 6;refine last_ (i := 12) (N := none) #[true, true, true, true, true, true, true, true, true, true, true, true, true] rfl rfl (by kernel_rfl) (by decide) (fun K hK => ?_);refine skip_ (w1 := ?_) (by rfl) rfl ?_ ?_;rotate_left
  · go_simp
    rfl
  refine hK.out _ _ ?_;clear hK K;have HW1 := Aside0.mk (HWB.out.put 6 (.slice Al (s.lv.length + 1) cpl) rfl (s' := s) (vs' := vs) (vl' := .slice Al (s.lv.length + 1) cpl) (vc' := vc));clear HWB hHeld;generalize World.setCell _ _ _ = w3 at HW1 ⊢;refine done_ (by kernel_rfl) ?_
  have hT := fun (W : World) (hh : WB w0 W g A n c s vs (.slice Al (s.lv.length + 1) cpl) vc vs (.slice Al (s.lv.length + 1) cpl) vc s.stack (s.lv ++ [(tp s).f0]) s.cl) => top_b hh HM.out
  have e1 : decide ((tp s).f1 ≥ 0) = decide (0 ≤ (tp s).f1) := rfl
  by_cases h1 : 0 ≤ (tp s).f1
  · have e2 := decide_eq_true h1
    have hy := HY.out;rw [if_pos h1] at hy;clear HY;subst hy
    go_wp2_with (first
      | (go_at_call 72; refine (hT _ HW1.out).mono ?_; rintro e_ w4 ⟨rfl, hb⟩; have HW2 := Aside0.mk (HW1.out.more hb); clear hb HW1)
      | (go_at_call 72; refine (hT _ HW2.out).mono ?_; rintro e_ w5 ⟨rfl, hb⟩; have HW3 := Aside0.mk (HW2.out.more hb); clear hb HW2; have a7 := blk_cell HW3.out.blk 7)
      | ((with_reducible refine gate_builtin (b := .append) (xs := #[.tmp 27, .tmp 29]) rfl ?_); at_builtin; refine WB.app_c2 HW3.out HL.out.2 rfl (.tmp 27) (.tmp 29) rfl rfl rfl ?_; intro uc' w6 hb; obtain ⟨Ac, cpc, rfl⟩ := Kd.R_slice hb.cl; simp only [List.length_append, List.length_singleton] at hb ⊢; have HW4 := Aside0.mk hb; clear hb HW3 a7; have b7 := blk_cell HW4.out.blk 7; have f7 := blk_frozen HW4.out.blk 7))
    go_end0
    exact ⟨_, _, rfl, (HW4.out.put 7 _ rfl (s' := s) (vs' := vs) (vl' := .slice Al (s.lv.length + 1) cpl)).ws⟩
  · have e2 := decide_eq_false h1
    have hy := HY.out;rw [if_neg h1] at hy;clear HY;subst hy
    go_wp2_with (first
      | (go_at_call 72; refine (hT _ HW1.out).mono ?_; rintro e_ w4 ⟨rfl, hb⟩; have HW2 := Aside0.mk (HW1.out.more hb); clear hb HW1; have a7 := blk_cell HW2.out.blk 7)
      | ((with_reducible refine gate_builtin (b := .append) (xs := #[.tmp 27, .tmp 29]) rfl ?_); at_builtin; refine WB.app_c2 HW2.out HL.out.2 rfl (.tmp 27) (.tmp 29) rfl rfl rfl ?_; intro uc' w6 hb; obtain ⟨Ac, cpc, rfl⟩ := Kd.R_slice hb.cl; simp only [List.length_append, List.length_singleton] at hb ⊢; have HW4 := Aside0.mk hb; clear hb HW2 a7; have b7 := blk_cell HW4.out.blk 7; have f7 := blk_frozen HW4.out.blk 7))
    go_end0
    exact ⟨_, _, rfl, (HW4.out.put 7 _ rfl (s' := s) (vs' := vs) (vl' := .slice Al (s.lv.length + 1) cpl)).ws⟩
theorem isolate_calls (w0 w : World) (g : Nat) (A : Option Addr) (n c : Nat) (s : WSt) (vs vl vc : Value) (h : WS w0 w g A n c s vs vl vc) (i x d : Int) (k : Nat) (l : List Int) (hA : Kd.C (Kd.int .i64) w0 A l.length l) (hn : n = l.length) (hc : l.length ≤ c) (hd : ductusref05_Isolate.f k l i = some d) (hm : 0 < s.stack.length ∧ s.stack.length < 100000) (hl : s.lv.length < 1000000 ∧ s.cl.length < 1000000) (he : 0 ≤ s.isol ∧ s.isol < 100000) (hv : 0 ≤ s.val ∧ s.val < 100000) :
    Calls Try.prog 69 #[.pointer (some ⟨g, 0, none⟩), .int .i64 i, .int .i64 x] w fun e w' => ∃ vs' vl' vc', e = .returned (.tuple #[]) ∧ WS w0 w' g A n c (isolateS s x d) vs' vl' vc' := by
  have hu := Try.underlying96;have hu2 := Try.underlying78;have hu3 := Try.underlying76;have HM := Aside0.mk hm;have HS := Aside0.mk h;have HL := Aside0.mk hl;have HA := Aside0.mk hA;have HC := Aside0.mk hc;have HD := Aside0.mk hd;subst hn;have hw := wrap_emb he;have hw2 := wrap_emb hv;have HWW := Aside0.mk (And.intro hw hw2);clear h hm hl hA hc hd he hv hw hw2;generalize hz : isolateS s x d = z;have HZ := Aside0.mk hz;clear hz
  go_enter Try.func69, Try.ntmps69
  go_upto_region 1 with (first | (go_at_call 73; refine (put_calls w0 _ g A l.length c s vs vl vc HS.out x HM.out HL.out).mono ?_; rintro e_ w2 ⟨vl2, vc2, rfl, hb⟩; have HW := Aside0.mk (show WS w0 w2 g A l.length c (putS s x) vs vl2 vc2 from hb); clear hb HS))
  have HWB := Aside0.mk (HW.out.more (below_drew1 (Below.refl _ _)));refine start_ (n := 11) (S := fun w' => WS w0 w' g A l.length c (putS s x) vs vl2 vc2) (ds := []) #[false, false, false, false, false, false, false, false, false, false, false] (by kernel_rfl) rfl rfl HWB.out (fun hHeld => ?_);generalize w2.drew = k0 at hHeld HWB ⊢;clear HW;refine pK 0 10 ?_;refine pK 3 13 ?_;refine pK 4 14 ?_;refine pK 5 15 ?_;refine tK 6 16 hHeld (hr := by rintro w' hS; have a1 := blk_cell hS.blk 8; go_simp; with_reducible rfl) (h := ?_);refine pK 7 17 ?_;refine one_ (i := 1) (N := some 11) #[true, true, false, true, true, true, true, true, false, false, false] rfl rfl (by kernel_rfl) (by decide) (fun K hK => ?_);refine goes_ Try.func72 (by kernel_rfl) rfl #[.pointer (some ⟨g, 0, none⟩)] (by rfl) rfl rfl (by (try simp only [List.map_toArray, List.map_cons, List.map_nil]); rfl) ?_;refine (show Calls Try.prog 72 #[.pointer (some ⟨g, 0, none⟩)] _ fun e w' => e = .returned (.agg #[.int .i64 (tp s).f0, .int .i64 (tp s).f1, .bool (tp s).f2]) ∧ Below _ _ w' from top_w (s := putS s x) HWB.out HM.out).mono ?_;rintro e_ k1 ⟨rfl, hb⟩;refine ⟨_, rfl, ?_⟩;have HWB2 := Aside0.mk (HWB.out.more hb);clear hb HWB;have HWB := HWB2;clear HWB2;refine hK.out _ _ HWB.out (fun hHeld => ?_);clear hK K;refine norm_ (a' := ?_) ?_ ?_;rotate_left
  · show Act.put _ (some 11) _ = _
    simp only [Act.put, List.setIfInBounds_toArray, List.set_cons_zero, List.set_cons_succ, i64_w, i32_w];rfl
  refine pK 2 12 ?_;refine one_ (i := 8) (N := some 18) #[true, true, true, true, true, true, true, true, true, false, false] rfl rfl (by kernel_rfl) (by decide) (fun K hK => ?_);refine goes_ Try.func87 (by kernel_rfl) rfl #[.slice A l.length c, .int .i64 i] (by rfl) rfl rfl (by (try simp only [List.map_toArray, List.map_cons, List.map_nil]); rfl) ?_;refine (ductusref05_Isolate.calls k A c l i d _ (Kd.C_below HA.out HWB.out.below) HC.out HD.out).mono ?_;rintro e_ k2 ⟨rfl, hb⟩;refine ⟨_, rfl, ?_⟩;have HWB2 := Aside0.mk (HWB.out.more hb);clear hb HWB;have HWB := HWB2;clear HWB2;refine hK.out _ _ HWB.out (fun hHeld => ?_);clear hK K;refine norm_ (a' := ?_) ?_ ?_;rotate_left
  · show Act.put _ (some 18) _ = _
    simp only [Act.put, List.setIfInBounds_toArray, List.set_cons_zero, List.set_cons_succ, i64_w, i32_w];rfl
  refine one_ (i := 9) (N := some 19) #[true, true, true, true, true, true, true, true, true, true, false] rfl rfl (by kernel_rfl) (by decide) (fun K hK => ?_);refine goes_ Try.func85 (by kernel_rfl) rfl #[.int .i64 (tp s).f0, .int .i64 d] (by rfl) rfl rfl (by (try simp only [List.map_toArray, List.map_cons, List.map_nil]); rfl) ?_;refine (ductusref06_Next.calls 10 _ _ (nextL (tp s).f0 d) _ (next_eq _ _)).mono ?_;rintro e_ k3 ⟨rfl, nd, rfl⟩;refine ⟨_, rfl, ?_⟩;have HWB2 := Aside0.mk (HWB.out.more (pw_below_drewN (Below.refl _ _) nd));clear HWB;have HWB := HWB2;clear HWB2;refine hK.out _ _ HWB.out (fun hHeld => ?_);clear hK K;refine norm_ (a' := ?_) ?_ ?_;rotate_left
  · show Act.put _ (some 19) _ = _
    simp only [Act.put, List.setIfInBounds_toArray, List.set_cons_zero, List.set_cons_succ, i64_w, i32_w];rfl
  refine pK 10 6 ?_;refine done_ (by kernel_rfl) ?_;clear hHeld;have hz := HZ.out;unfold isolateS at hz;clear HZ
  cases hf : fitsB s (nextL (tp s).f0 d) with
  | true =>
    rw [if_pos hf] at hz;have HZ := Aside0.mk hz;clear hz
    go_upto_region 4 with (first
      | (go_at_call 86; refine (fits_calls (s := putS s x) HWB.out.wb (nextL (tp s).f0 d) true hf).mono ?_; rintro e_ w7 ⟨rfl, hb⟩; have HS4 := Aside0.mk (HWB.out.more hb); clear hb HWB; have a4 : w7.cell? ⟨g, 4, none⟩ = some (.int .i64 s.val) := blk_cell HS4.out.blk 4; have f4 := blk_frozen HS4.out.blk 4; have hw := HWW.out.2))
    have HS5 := Aside0.mk (HS4.out.put 4 (.int .i64 (s.val + 1)) (s' := {putS s x with val := s.val + 1}) (vs' := vs) (vl' := vl2) (vc' := vc2) rfl HS4.out.st HS4.out.lv HS4.out.cl);(try rw [hw]);clear HS4 a4 f4 hw;generalize World.setCell _ _ _ = w8 at HS5 ⊢
    go_wp2_with (first
      | (go_at_call 84; refine (push_calls w0 _ g A l.length c _ vs vl2 vc2 HS5.out ⟨nextL (tp s).f0 d, -1, true⟩ HM.out.2).mono ?_; rintro e_ w9 ⟨vs3, rfl, hb⟩; have HS6 := Aside0.mk hb; clear hb HS5))
    go_end0
    have hz := HZ.out;subst hz
    first | exact ⟨_, _, _, rfl, HS6.out⟩ | exact ⟨rfl, _, _, _, HS6.out⟩
  | false =>
    rw [if_neg (by rw [hf]; decide)] at hz;have HZ := Aside0.mk hz;clear hz
    go_wp2_with (first
      | (go_at_call 86; refine (fits_calls (s := putS s x) HWB.out.wb (nextL (tp s).f0 d) false hf).mono ?_; rintro e_ w7 ⟨rfl, hb⟩; have HS4 := Aside0.mk (HWB.out.more hb); clear hb HWB; have a2 : w7.cell? ⟨g, 2, none⟩ = some (.int .i64 s.isol) := blk_cell HS4.out.blk 2; have f2 := blk_frozen HS4.out.blk 2; have hw := HWW.out.1))
    go_end0
    have hz := HZ.out;subst hz
    have hfin := fun u (hu : u = s.isol + 1) => HS4.out.put 2 (.int .i64 u) (s' := {putS s x with isol := s.isol + 1}) (vs' := vs) (vl' := vl2) (vc' := vc2) (by rw [hu]; rfl) HS4.out.st HS4.out.lv HS4.out.cl
    first | exact ⟨_, _, _, rfl, hfin _ rfl⟩ | exact ⟨rfl, _, _, _, hfin _ rfl⟩ | exact ⟨_, _, _, rfl, hfin _ hw⟩ | exact ⟨rfl, _, _, _, hfin _ hw⟩
end Go.Proofs.Ytmjipbmpapcboaa.P
namespace Go.Proofs.Ytmjipbmpapcboaa.P
open Go.RowKit Go.Proofs.YtmjipbmpapcboaaW.PrintWords Go.Proofs.YtmjipbmpapcboaaW.PrintLast Go.Proofs.YtmjipbmpapcboaaW.PrintMore
attribute [local go_sem] ent_f0 ent_f1 ent_f2
set_option linter.unusedVariables false
set_option linter.unusedSimpArgs false
def stackLen (W : World) (g : Nat) : Nat := match W.cell? ⟨g, 1, none⟩ with | some (.slice _ n _) => n | _ => 0
theorem stackLen_eq {w0 W : World} {g : Nat} {A : Option Addr} {n c : Nat} {s : WSt} {vs vl vc : Value} (h : WS w0 W g A n c s vs vl vc) : stackLen W g = s.stack.length := by
  obtain ⟨As, cs, rfl⟩ := Kd.R_slice h.st;unfold stackLen;rw [show W.cell? ⟨g, 1, none⟩ = some (.slice As s.stack.length cs) from blk_cell h.blk 1]
theorem end_calls (w0 w : World) (g : Nat) (A : Option Addr) (n c : Nat) (s : WSt) (vs vl vc : Value) (h : WS w0 w g A n c s vs vl vc) (x : Int) (q : Nat) (hm : 0 < s.stack.length ∧ s.stack.length < 100000) (hl : s.lv.length < 1000000 ∧ s.cl.length < 1000000) (he : 0 ≤ s.isol ∧ s.isol < 100000) (hv : 0 ≤ s.val ∧ s.val < 100000) (hq : 0 < s.val → 0 < q ∧ q < s.stack.length ∧ (s.stack.getD q z96).f2 = true ∧ ∀ j, q < j → j < s.stack.length → (s.stack.getD j z96).f2 = false) :
    Calls Try.prog 70 #[.pointer (some ⟨g, 0, none⟩), .int .i64 x] w fun e w' => ∃ vs' vl' vc', e = .returned (.tuple #[]) ∧ WS w0 w' g A n c (endS s x q) vs' vl' vc' := by
  have hu := Try.underlying96;have hu2 := Try.underlying78;have hu3 := Try.underlying76;have HM := Aside0.mk hm;have HL := Aside0.mk hl;have HS := Aside0.mk h;have HQ := Aside0.mk hq;have hw := wrap_dec he;have HWV := Aside0.mk (wrap_dec hv);have a2 := blk_cell h.blk 2;have a3 := blk_cell h.blk 3;have a4 := blk_cell h.blk 4;have f2 := blk_frozen h.blk 2;have f3 := blk_frozen h.blk 3;clear h hm hl hq he hv;generalize hz : endS s x q = z;unfold endS at hz
  by_cases h1 : 0 < s.isol
  · rw [if_pos h1] at hz
    have e1 := decide_eq_true h1;have HZ := Aside0.mk hz;clear hz h1
    have HP := fun u (hu : u = s.isol - 1) => put_calls w0 _ g A n c {s with isol := s.isol - 1} vs vl vc (HS.out.put 2 (.int .i64 u) (s' := {s with isol := s.isol - 1}) (vs' := vs) (vl' := vl) (vc' := vc) (by rw [hu]; rfl) HS.out.st HS.out.lv HS.out.cl) x HM.out HL.out
    have HPX := Aside0.mk HP;have HWX := Aside0.mk hw;clear HP
    go_enter Try.func70, Try.ntmps70
    go_wp2_with (first | (go_at_call 73; first | refine (HPX.out _ rfl).mono ?_ | refine (HPX.out _ HWX.out).mono ?_); rintro e_ w2 ⟨vl2, vc2, rfl, hb⟩; have HS2 := Aside0.mk hb; clear hb)
    go_end0
    have hz := HZ.out;subst hz
    first | exact ⟨_, _, _, rfl, HS2.out⟩ | exact ⟨rfl, _, _, _, HS2.out⟩
  rw [if_neg h1] at hz;have e1 := decide_eq_false h1
  by_cases h2 : 0 < s.val
  · rw [if_pos h2] at hz
    have e2 := decide_eq_true h2;obtain ⟨q0, q1, q2, q3⟩ := HQ.out h2;have HQ0 := Aside0.mk q0;have HQ1 := Aside0.mk q1;have HQ2 := Aside0.mk q2;have HQ3 := Aside0.mk q3;have HZ := Aside0.mk hz;have HS1 := Aside0.mk (HS.out.put 3 (.int .i64 0) (s' := {s with emb := 0}) (vs' := vs) (vl' := vl) (vc' := vc) rfl HS.out.st HS.out.lv HS.out.cl);clear hz h1 h2 hw HQ q0 q1 q2 q3
    go_enter Try.func70, Try.ntmps70
    go_wp2;clear HS a2 a3 a4 f2 f3 e1 e2;generalize World.setCell _ _ _ = w1 at HS1 ⊢
    go_loopw [26] (fun v wr => ∃ (m : Nat) (vs' : Value), q < m ∧ m ≤ s.stack.length ∧ WS w0 wr g A n c {s with emb := 0, stack := s.stack.take m} vs' vl vc) (fun _ wr => stackLen wr g)
    case atStart => exact ⟨s.stack.length, vs, HQ1.out, Nat.le_refl _, by rw [List.take_length]; exact HS1.out⟩
    case round =>
      obtain ⟨m, vs', hqm, hms, hWS⟩ := hrel
      have hlen : (s.stack.take m).length = m := by rw [List.length_take]; omega
      have htop : tp {s with emb := 0, stack := s.stack.take m} = s.stack.getD (m - 1) z96 := by
        unfold tp;dsimp only;rw [hlen, List.getD_eq_getElem?_getD, List.getD_eq_getElem?_getD, List.getElem?_take, if_pos (by omega)]
      have hT := top_w hWS ⟨by dsimp only; rw [hlen]; omega, by dsimp only; rw [hlen]; have := HM.out; omega⟩;rw [htop] at hT;have HLE := Aside0.mk hlen;have HW := Aside0.mk hWS;have HMS := Aside0.mk hms;have HQM := Aside0.mk hqm
      by_cases h3 : m = q + 1
      · subst h3
        rw [show q + 1 - 1 = q from rfl, HQ2.out] at hT
        have hPut := fun (W : World) (vs3 : Value) (u : Int) (hW : WS w0 W g A n c {s with emb := 0, stack := s.stack.take q} vs3 vl vc) (hu : u = s.val - 1) => put_calls w0 _ g A n c {s with emb := 0, stack := s.stack.take q, val := s.val - 1} vs3 vl vc (hW.put 4 (.int .i64 u) (s' := {s with emb := 0, stack := s.stack.take q, val := s.val - 1}) (vs' := vs3) (vl' := vl) (vc' := vc) (by rw [hu]; rfl) hW.st hW.lv hW.cl) x ⟨by dsimp only; rw [List.length_take]; have := HQ0.out; have := HQ1.out; omega, by dsimp only; rw [List.length_take]; have := HM.out; omega⟩ HL.out
        clear htop hlen hWS hms hqm
        go_wp2_with (first
          | (go_at_call 72; refine hT.mono ?_; rintro e_ w5 ⟨rfl, hb⟩; have HW2 := Aside0.mk (HW.out.more hb); clear hb HW)
          | (go_at_call 88; refine (pop_w HW2.out ⟨by rw [HLE.out]; omega, by rw [HLE.out]; have := HM.out; have := HMS.out; omega⟩).mono ?_; rintro e_ w6 ⟨vs3, rfl, hb⟩; have HW3 := Aside0.mk (show WS w0 w6 g A n c {s with emb := 0, stack := s.stack.take q} vs3 vl vc from (pop_take s (q + 1) q (by have := HMS.out; omega) (by omega) ▸ hb)); clear hb HW2; have a4 : w6.cell? ⟨g, 4, none⟩ = some (.int .i64 s.val) := blk_cell HW3.out.blk 4; have f4 := blk_frozen HW3.out.blk 4; have hw := HWV.out)
          | (go_at_call 73; (first | refine (hPut _ _ _ HW3.out rfl).mono ?_ | refine (hPut _ _ _ HW3.out HWV.out).mono ?_); rintro e_ w7 ⟨vl2, vc2, rfl, hb⟩; have HS2 := Aside0.mk hb; clear hb))
        go_end0
        have hz := HZ.out;subst hz
        first | exact ⟨_, _, _, rfl, HS2.out⟩ | exact ⟨rfl, _, _, _, HS2.out⟩
      · have hf := HQ3.out (m - 1) (by omega) (by omega)
        rw [hf] at hT;clear htop hlen hWS hms hqm;have HH3 := Aside0.mk h3;clear h3 hf
        go_wp2_with (first
          | (go_at_call 72; refine hT.mono ?_; rintro e_ w5 ⟨rfl, hb⟩; have HW2 := Aside0.mk (HW.out.more hb); have HSL := Aside0.mk (stackLen_eq HW.out); clear hb HW)
          | (go_at_call 88; refine (pop_w HW2.out ⟨by rw [HLE.out]; have := HQM.out; omega, by rw [HLE.out]; have := HM.out; have := HMS.out; omega⟩).mono ?_; rintro e_ w6 ⟨vs3, rfl, hb⟩; have HW3 := Aside0.mk (show WS w0 w6 g A n c {s with emb := 0, stack := s.stack.take (m - 1)} vs3 vl vc from (pop_take s m (m - 1) HMS.out (by omega) ▸ hb)); clear hb HW2))
        refine ⟨⟨m - 1, vs3, by have := HQM.out; have := HH3.out; omega, by have := HMS.out; omega, HW3.out⟩, ?_⟩;rw [stackLen_eq HW3.out, HSL.out];dsimp only;rw [HLE.out, List.length_take];have := HQM.out
        omega
  rw [if_neg h2] at hz;have e2 := decide_eq_false h2;have HZ := Aside0.mk hz;clear hz h1 h2
  go_enter Try.func70, Try.ntmps70
  go_wp2_with (first | (go_at_call 73; refine (put_calls w0 _ g A n c s vs vl vc HS.out x HM.out HL.out).mono ?_; rintro e_ w2 ⟨vl2, vc2, rfl, hb⟩; have HS2 := Aside0.mk hb; clear hb))
  go_end0
  have hz := HZ.out;subst hz
  first | exact ⟨_, _, _, rfl, HS2.out⟩ | exact ⟨rfl, _, _, _, HS2.out⟩
end Go.Proofs.Ytmjipbmpapcboaa.P
namespace Go.Proofs.Ytmjipbmpapcboaa.P
open Go.RowKit Go.Proofs.YtmjipbmpapcboaaW.PrintWords Go.Proofs.YtmjipbmpapcboaaW.PrintLast Go.Proofs.YtmjipbmpapcboaaW.PrintMore
attribute [local go_sem] ent_f0 ent_f1 ent_f2
set_option linter.unusedVariables false
set_option linter.unusedSimpArgs false
theorem back_calls (w0 w : World) (g : Nat) (A : Option Addr) (n c : Nat) (s : WSt) (vs vl vc : Value) (h : WS w0 w g A n c s vs vl vc) (hm : 0 < s.stack.length ∧ s.stack.length < 100000) (hl : s.lv.length < 1000000 ∧ s.cl.length < 1000000) (he : 0 ≤ s.emb ∧ s.emb < 100000) :
    Calls Try.prog 71 #[.pointer (some ⟨g, 0, none⟩)] w fun e w' => ∃ vs' vl' vc', e = .returned (.tuple #[]) ∧ WS w0 w' g A n c (backS s) vs' vl' vc' := by
  have hu := Try.underlying96;have hu2 := Try.underlying78;have hu3 := Try.underlying76;have HM := Aside0.mk hm;have HL := Aside0.mk hl;have HW := Aside0.mk h.wb;clear h hm hl;have HE := Aside0.mk he;clear he;generalize hz : backS s = z;have HZ := Aside0.mk hz;clear hz
  go_enter Try.func71, Try.ntmps71
  go_upto_region 0 with (fail)
  have HWB := Aside0.mk (HW.out.more (below_drew1 (Below.refl _ _)));refine start_ (n := 23) (S := fun w' => w'.heap[g]? = some (.cells #[.int .i64 s.base, vs, .int .i64 s.isol, .int .i64 s.emb, .int .i64 s.val, .int .i64 s.most, vl, vc, .slice A n c] 78 (0, 0))) (ds := [19, 22]) #[false, false, false, false, false, false, false, false, false, false, false, false, false, false, false, false, false, false, false, false, false, false, false] (by kernel_rfl) rfl rfl HWB.out.blk (fun hHeld => ?_);generalize w.drew = k0 at hHeld HWB ⊢;clear HW;refine pK 0 2 ?_;refine pK 1 3 ?_;refine pK 2 4 ?_;refine pK 3 5 ?_;refine pK 4 6 ?_;refine tK 5 7 hHeld (hr := by rintro w' hS; have a1 := blk_cell hS 6; go_simp; with_reducible rfl) (h := ?_);refine pK 6 8 ?_;refine pK 11 13 ?_;refine pK 12 14 ?_;refine pK 13 15 ?_;refine tK 14 16 hHeld (hr := by rintro w' hS; have a1 := blk_cell hS 7; go_simp; with_reducible rfl) (h := ?_);refine join_ (σ := Option Addr × Nat × Nat × Nat) 7 #[true, true, true, true, true, true, true, true, true, true, true, true, true, true, true, true, false, false, false, false, false, false, false] (fun s_ => [(9, .agg #[.int .i64 (tp s).f0, .int .i64 (tp s).f1, .bool (tp s).f2]), (10, .int .i64 (tp s).f0), (11, .slice (some ⟨s_.2.2.1, 0, none⟩) 1 1), (12, .slice s_.1 (s.lv.length + 1) s_.2.1), (17, .slice (some ⟨s_.2.2.2, 0, none⟩) 1 1)]) (fun s_ w' => WB w0 w' g A n c s vs vl vc vs (.slice s_.1 (s.lv.length + 1) s_.2.1) vc s.stack (s.lv ++ [(tp s).f0]) s.cl ∧ Bx w' (.slice s_.1 (s.lv.length + 1) s_.2.1) vc s_.2.2.2 18) ?_ ?_;rotate_left
  · skip
    intro hCont;refine two_ (i := 7) (j := 15) (Ni := some 9) (Nj := some 17) #[true, true, true, true, true, true, true, true, false, false, false, true, true, true, true, false, false, false, false, false, false, false, false] #[true, true, true, true, true, true, true, false, false, false, false, true, true, true, true, true, false, false, false, false, false, false, false] rfl rfl rfl rfl (by kernel_rfl) (by decide) (by decide) (fun K hK => ?_) (fun K hK => ?_)
    · skip
      refine goes_ Try.func72 (by kernel_rfl) rfl #[.pointer (some ⟨g, 0, none⟩)] (by rfl) rfl rfl (by (try simp only [List.map_toArray, List.map_cons, List.map_nil]); rfl) ?_;refine (top_b HWB.out HM.out).mono ?_;rintro e_ k1 ⟨rfl, hb⟩;refine ⟨_, rfl, ?_⟩;have HWB2 := Aside0.mk (HWB.out.more hb);clear hb HWB;have HWB := HWB2;clear HWB2;refine hK.out _ _ HWB.out.blk (fun hHeld => ?_);clear hK K;refine norm_ (a' := ?_) ?_ ?_;rotate_left
      · show Act.put _ (some 9) _ = _
        simp only [Act.put, List.setIfInBounds_toArray, List.set_cons_zero, List.set_cons_succ, i64_w, i32_w];rfl
      refine pK 8 10 ?_;refine two_ (i := 9) (j := 15) (Ni := some 11) (Nj := some 17) #[true, true, true, true, true, true, true, true, true, true, false, true, true, true, true, false, false, false, false, false, false, false, false] #[true, true, true, true, true, true, true, true, true, false, false, true, true, true, true, true, false, false, false, false, false, false, false] rfl rfl rfl rfl (by kernel_rfl) (by decide) (by decide) (fun K hK => ?_) (fun K hK => ?_)
      · skip
        refine box1_step (x := (tp s).f0) (by rfl) (N := 11) rfl (by first | (go_simp; done) | (go_simp; rfl)) ?_;intro kHBA w1 hk hb1 hb;have HBA := Aside0.mk (Bx.made HWB.out hk hb1);have HWB2 := Aside0.mk (HWB.out.more hb);clear hb hb1 hk HWB;have HWB := HWB2;clear HWB2;refine hK.out _ _ HWB.out.blk (fun hHeld => ?_);clear hK K;refine norm_ (a' := ?_) ?_ ?_;rotate_left
        · show Act.put _ (some 11) _ = _
          simp only [Act.put, List.setIfInBounds_toArray, List.set_cons_zero, List.set_cons_succ, i64_w, i32_w];rfl
        refine two_ (i := 10) (j := 15) (Ni := some 12) (Nj := some 17) #[true, true, true, true, true, true, true, true, true, true, true, true, true, true, true, false, false, false, false, false, false, false, false] #[true, true, true, true, true, true, true, true, true, true, false, true, true, true, true, true, false, false, false, false, false, false, false] rfl rfl rfl rfl (by kernel_rfl) (by decide) (by decide) (fun K hK => ?_) (fun K hK => ?_)
        · skip
          refine HWB.out.app_l HBA.out HL.out.1 (by rfl) (.tmp 7) (.tmp 11) rfl rfl rfl ?_;intro ul' w1 hb hg hat;obtain ⟨Al, cpl, rfl⟩ := Kd.R_slice hb.lv;simp only [List.length_append, List.length_singleton] at hb hat ⊢;have HWB2 := Aside0.mk hb;clear hb hg hat HWB HBA;have HWB := HWB2;clear HWB2;refine hK.out _ _ HWB.out.blk (fun hHeld => ?_);clear hK K;refine norm_ (a' := ?_) ?_ ?_;rotate_left
          · show Act.put _ (some 12) _ = _
            simp only [Act.put, List.setIfInBounds_toArray, List.set_cons_zero, List.set_cons_succ, i64_w, i32_w];rfl
          refine one_ (i := 15) (N := some 17) #[true, true, true, true, true, true, true, true, true, true, true, true, true, true, true, true, false, false, false, false, false, false, false] rfl rfl (by kernel_rfl) (by decide) (fun K hK => ?_);refine box1_step (x := 18) (by rfl) (N := 17) rfl (by first | (go_simp; done) | (go_simp; rfl)) ?_;intro kHBB w1 hk hb1 hb;have HBB := Aside0.mk (Bx.made HWB.out hk hb1);have HWB2 := Aside0.mk (HWB.out.more hb);clear hb hb1 hk HWB;have HWB := HWB2;clear HWB2;refine hK.out _ _ HWB.out.blk (fun hHeld => ?_);clear hK K;refine norm_ (a' := ?_) ?_ ?_;rotate_left
          · show Act.put _ (some 17) _ = _
            simp only [Act.put, List.setIfInBounds_toArray, List.set_cons_zero, List.set_cons_succ, i64_w, i32_w];rfl
          exact norm_ (by simp only [putAll, Act.put, List.setIfInBounds_toArray, List.set_cons_zero, List.set_cons_succ]) (hCont (Al, cpl, kHBA, kHBB) _ ⟨HWB.out, HBB.out⟩)
        · skip
          refine box1_step (x := 18) (by rfl) (N := 17) rfl (by first | (go_simp; done) | (go_simp; rfl)) ?_;intro kHBB w1 hk hb1 hb;have HBB := Aside0.mk (Bx.made HWB.out hk hb1);have HBA2 := Aside0.mk (HBA.out.more hb);clear HBA;have HBA := HBA2;clear HBA2;have HWB2 := Aside0.mk (HWB.out.more hb);clear hb hb1 hk HWB;have HWB := HWB2;clear HWB2;refine hK.out _ _ HWB.out.blk (fun hHeld => ?_);clear hK K;refine norm_ (a' := ?_) ?_ ?_;rotate_left
          · show Act.put _ (some 17) _ = _
            simp only [Act.put, List.setIfInBounds_toArray, List.set_cons_zero, List.set_cons_succ, i64_w, i32_w];rfl
          refine one_ (i := 10) (N := some 12) #[true, true, true, true, true, true, true, true, true, true, true, true, true, true, true, true, false, false, false, false, false, false, false] rfl rfl (by kernel_rfl) (by decide) (fun K hK => ?_);refine HWB.out.app_l HBA.out HL.out.1 (by rfl) (.tmp 7) (.tmp 11) rfl rfl rfl ?_;intro ul' w1 hb hg hat;obtain ⟨Al, cpl, rfl⟩ := Kd.R_slice hb.lv;simp only [List.length_append, List.length_singleton] at hb hat ⊢;have HBB2 := Aside0.mk (HBB.out.grown_l hg hat);clear HBB;have HBB := HBB2;clear HBB2;have HWB2 := Aside0.mk hb;clear hb hg hat HWB HBA;have HWB := HWB2;clear HWB2;refine hK.out _ _ HWB.out.blk (fun hHeld => ?_);clear hK K;refine norm_ (a' := ?_) ?_ ?_;rotate_left
          · show Act.put _ (some 12) _ = _
            simp only [Act.put, List.setIfInBounds_toArray, List.set_cons_zero, List.set_cons_succ, i64_w, i32_w];rfl
          exact norm_ (by simp only [putAll, Act.put, List.setIfInBounds_toArray, List.set_cons_zero, List.set_cons_succ]) (hCont (Al, cpl, kHBA, kHBB) _ ⟨HWB.out, HBB.out⟩)
      · skip
        refine box1_step (x := 18) (by rfl) (N := 17) rfl (by first | (go_simp; done) | (go_simp; rfl)) ?_;intro kHBB w1 hk hb1 hb;have HBB := Aside0.mk (Bx.made HWB.out hk hb1);have HWB2 := Aside0.mk (HWB.out.more hb);clear hb hb1 hk HWB;have HWB := HWB2;clear HWB2;refine hK.out _ _ HWB.out.blk (fun hHeld => ?_);clear hK K;refine norm_ (a' := ?_) ?_ ?_;rotate_left
        · show Act.put _ (some 17) _ = _
          simp only [Act.put, List.setIfInBounds_toArray, List.set_cons_zero, List.set_cons_succ, i64_w, i32_w];rfl
        refine one_ (i := 9) (N := some 11) #[true, true, true, true, true, true, true, true, true, true, false, true, true, true, true, true, false, false, false, false, false, false, false] rfl rfl (by kernel_rfl) (by decide) (fun K hK => ?_);refine box1_step (x := (tp s).f0) (by rfl) (N := 11) rfl (by first | (go_simp; done) | (go_simp; rfl)) ?_;intro kHBA w1 hk hb1 hb;have HBA := Aside0.mk (Bx.made HWB.out hk hb1);have HBB2 := Aside0.mk (HBB.out.more hb);clear HBB;have HBB := HBB2;clear HBB2;have HWB2 := Aside0.mk (HWB.out.more hb);clear hb hb1 hk HWB;have HWB := HWB2;clear HWB2;refine hK.out _ _ HWB.out.blk (fun hHeld => ?_);clear hK K;refine norm_ (a' := ?_) ?_ ?_;rotate_left
        · show Act.put _ (some 11) _ = _
          simp only [Act.put, List.setIfInBounds_toArray, List.set_cons_zero, List.set_cons_succ, i64_w, i32_w];rfl
        refine one_ (i := 10) (N := some 12) #[true, true, true, true, true, true, true, true, true, true, true, true, true, true, true, true, false, false, false, false, false, false, false] rfl rfl (by kernel_rfl) (by decide) (fun K hK => ?_);refine HWB.out.app_l HBA.out HL.out.1 (by rfl) (.tmp 7) (.tmp 11) rfl rfl rfl ?_;intro ul' w1 hb hg hat;obtain ⟨Al, cpl, rfl⟩ := Kd.R_slice hb.lv;simp only [List.length_append, List.length_singleton] at hb hat ⊢;have HBB2 := Aside0.mk (HBB.out.grown_l hg hat);clear HBB;have HBB := HBB2;clear HBB2;have HWB2 := Aside0.mk hb;clear hb hg hat HWB HBA;have HWB := HWB2;clear HWB2;refine hK.out _ _ HWB.out.blk (fun hHeld => ?_);clear hK K;refine norm_ (a' := ?_) ?_ ?_;rotate_left
        · show Act.put _ (some 12) _ = _
          simp only [Act.put, List.setIfInBounds_toArray, List.set_cons_zero, List.set_cons_succ, i64_w, i32_w];rfl
        exact norm_ (by simp only [putAll, Act.put, List.setIfInBounds_toArray, List.set_cons_zero, List.set_cons_succ]) (hCont (Al, cpl, kHBA, kHBB) _ ⟨HWB.out, HBB.out⟩)
    · skip
      refine box1_step (x := 18) (by rfl) (N := 17) rfl (by first | (go_simp; done) | (go_simp; rfl)) ?_;intro kHBB w1 hk hb1 hb;have HBB := Aside0.mk (Bx.made HWB.out hk hb1);have HWB2 := Aside0.mk (HWB.out.more hb);clear hb hb1 hk HWB;have HWB := HWB2;clear HWB2;refine hK.out _ _ HWB.out.blk (fun hHeld => ?_);clear hK K;refine norm_ (a' := ?_) ?_ ?_;rotate_left
      · show Act.put _ (some 17) _ = _
        simp only [Act.put, List.setIfInBounds_toArray, List.set_cons_zero, List.set_cons_succ, i64_w, i32_w];rfl
      refine one_ (i := 7) (N := some 9) #[true, true, true, true, true, true, true, true, false, false, false, true, true, true, true, true, false, false, false, false, false, false, false] rfl rfl (by kernel_rfl) (by decide) (fun K hK => ?_);refine goes_ Try.func72 (by kernel_rfl) rfl #[.pointer (some ⟨g, 0, none⟩)] (by rfl) rfl rfl (by (try simp only [List.map_toArray, List.map_cons, List.map_nil]); rfl) ?_;refine (top_b HWB.out HM.out).mono ?_;rintro e_ k1 ⟨rfl, hb⟩;refine ⟨_, rfl, ?_⟩;have HWB2 := Aside0.mk (HWB.out.more hb);have HBB2 := Aside0.mk (HBB.out.more hb);clear HBB;have HBB := HBB2;clear HBB2;clear hb HWB;have HWB := HWB2;clear HWB2;refine hK.out _ _ HWB.out.blk (fun hHeld => ?_);clear hK K;refine norm_ (a' := ?_) ?_ ?_;rotate_left
      · show Act.put _ (some 9) _ = _
        simp only [Act.put, List.setIfInBounds_toArray, List.set_cons_zero, List.set_cons_succ, i64_w, i32_w];rfl
      refine pK 8 10 ?_;refine one_ (i := 9) (N := some 11) #[true, true, true, true, true, true, true, true, true, true, false, true, true, true, true, true, false, false, false, false, false, false, false] rfl rfl (by kernel_rfl) (by decide) (fun K hK => ?_);refine box1_step (x := (tp s).f0) (by rfl) (N := 11) rfl (by first | (go_simp; done) | (go_simp; rfl)) ?_;intro kHBA w1 hk hb1 hb;have HBA := Aside0.mk (Bx.made HWB.out hk hb1);have HBB2 := Aside0.mk (HBB.out.more hb);clear HBB;have HBB := HBB2;clear HBB2;have HWB2 := Aside0.mk (HWB.out.more hb);clear hb hb1 hk HWB;have HWB := HWB2;clear HWB2;refine hK.out _ _ HWB.out.blk (fun hHeld => ?_);clear hK K;refine norm_ (a' := ?_) ?_ ?_;rotate_left
      · show Act.put _ (some 11) _ = _
        simp only [Act.put, List.setIfInBounds_toArray, List.set_cons_zero, List.set_cons_succ, i64_w, i32_w];rfl
      refine one_ (i := 10) (N := some 12) #[true, true, true, true, true, true, true, true, true, true, true, true, true, true, true, true, false, false, false, false, false, false, false] rfl rfl (by kernel_rfl) (by decide) (fun K hK => ?_);refine HWB.out.app_l HBA.out HL.out.1 (by rfl) (.tmp 7) (.tmp 11) rfl rfl rfl ?_;intro ul' w1 hb hg hat;obtain ⟨Al, cpl, rfl⟩ := Kd.R_slice hb.lv;simp only [List.length_append, List.length_singleton] at hb hat ⊢;have HBB2 := Aside0.mk (HBB.out.grown_l hg hat);clear HBB;have HBB := HBB2;clear HBB2;have HWB2 := Aside0.mk hb;clear hb hg hat HWB HBA;have HWB := HWB2;clear HWB2;refine hK.out _ _ HWB.out.blk (fun hHeld => ?_);clear hK K;refine norm_ (a' := ?_) ?_ ?_;rotate_left
      · show Act.put _ (some 12) _ = _
        simp only [Act.put, List.setIfInBounds_toArray, List.set_cons_zero, List.set_cons_succ, i64_w, i32_w];rfl
      exact norm_ (by simp only [putAll, Act.put, List.setIfInBounds_toArray, List.set_cons_zero, List.set_cons_succ]) (hCont (Al, cpl, kHBA, kHBB) _ ⟨HWB.out, HBB.out⟩)
  rintro ⟨Al, cpl, kA, kB⟩ w2 ⟨hW, hX⟩;clear HWB hHeld;have HWB := Aside0.mk hW;have HBB := Aside0.mk hX;have hHeld : True := trivial;clear hW hX;refine norm_ (a' := ?_) ?_ ?_;rotate_left
  · simp only [putAll, Act.put, List.setIfInBounds_toArray, List.set_cons_zero, List.set_cons_succ]
    rfl
  refine one_ (i := 16) (N := some 18) #[true, true, true, true, true, true, true, true, true, true, true, true, true, true, true, true, true, false, false, false, false, false, false] rfl rfl (by kernel_rfl) (by decide) (fun K hK => ?_);refine HWB.out.app_c HBB.out HL.out.2 (by rfl) (.tmp 16) (.tmp 17) rfl rfl rfl ?_;intro uc' w1 hb;obtain ⟨Ac, cpc, rfl⟩ := Kd.R_slice hb.cl;simp only [List.length_append, List.length_singleton] at hb ⊢;have HWB2 := Aside0.mk hb;clear hb HWB HBB;have HWB := HWB2;clear HWB2;refine hK.out _ _ HWB.out.blk (fun hHeld => ?_);clear hK K;refine norm_ (a' := ?_) ?_ ?_;rotate_left
  · show Act.put _ (some 18) _ = _
    simp only [Act.put, List.setIfInBounds_toArray, List.set_cons_zero, List.set_cons_succ, i64_w, i32_w];rfl
  refine pK 17 19 ?_;refine pK 18 20 ?_;have f1 := blk_frozen HWB.out.blk 6;have f2 := blk_cell HWB.out.blk 6;refine last_ (i := 19) (N := none) #[true, true, true, true, true, true, true, true, true, true, true, true, true, true, true, true, true, true, true, true, false, false, false] rfl rfl (by kernel_rfl) (by decide) (fun K hK => ?_);refine skip_ (w1 := ?_) (by rfl) rfl ?_ ?_;rotate_left
  · go_simp
    rfl
  refine hK.out _ _ ?_;clear hK K;have HW1 := Aside0.mk (HWB.out.put 6 (.slice Al (s.lv.length + 1) cpl) rfl (s' := s) (vs' := vs) (vl' := .slice Al (s.lv.length + 1) cpl) (vc' := vc));clear HWB hHeld f1 f2;generalize World.setCell _ _ _ = w3 at HW1 ⊢;have HWB := HW1;clear HW1;have hHeld : True := trivial;refine pK 20 21 ?_;refine pK 21 22 ?_;have f1 := blk_frozen HWB.out.blk 7;have f2 := blk_cell HWB.out.blk 7;refine last_ (i := 22) (N := none) #[true, true, true, true, true, true, true, true, true, true, true, true, true, true, true, true, true, true, true, true, true, true, true] rfl rfl (by kernel_rfl) (by decide) (fun K hK => ?_);refine skip_ (w1 := ?_) (by rfl) rfl ?_ ?_;rotate_left
  · go_simp
    rfl
  refine hK.out _ _ ?_;clear hK K;have HW1 := Aside0.mk (HWB.out.put 7 (.slice Ac (s.cl.length + 1) cpc) rfl (s' := s) (vs' := vs) (vl' := .slice Al (s.lv.length + 1) cpl) (vc' := .slice Ac (s.cl.length + 1) cpc));clear HWB hHeld f1 f2;generalize World.setCell _ _ _ = w4 at HW1 ⊢;refine done_ (by kernel_rfl) ?_;generalize Value.slice Al (s.lv.length + 1) cpl = vl2 at HW1 ⊢;generalize Value.slice Ac (s.cl.length + 1) cpc = vc2 at HW1 ⊢;have HS := Aside0.mk (show WS w0 w4 g A n c (bothS s 18) vs vl2 vc2 from HW1.out.ws);clear HW1;obtain ⟨As, cst, evs⟩ := Kd.R_slice HS.out.st;rw [show (bothS s 18).stack.length = s.stack.length from rfl] at evs;subst evs;have hw := wrap_dec HE.out;have a1 : w4.cell? ⟨g, 1, none⟩ = some (.slice As s.stack.length cst) := blk_cell HS.out.blk 1;have a2 : w4.cell? ⟨g, 2, none⟩ = some (.int .i64 s.isol) := blk_cell HS.out.blk 2;have a3 : w4.cell? ⟨g, 3, none⟩ = some (.int .i64 s.emb) := blk_cell HS.out.blk 3;have f3 := blk_frozen HS.out.blk 3;have hz := HZ.out;unfold backS at hz;clear HZ
  by_cases h1 : 0 < s.isol
  · rw [if_pos h1] at hz
    have e1 := decide_eq_true h1;have HZ := Aside0.mk hz;clear hz h1;go_wp2
    go_end0
    have hz := HZ.out;subst hz
    first | exact ⟨_, _, _, rfl, HS.out⟩ | exact ⟨rfl, _, _, _, HS.out⟩
  rw [if_neg h1] at hz;have e1 := decide_eq_false h1
  by_cases h2 : 0 < s.emb
  · rw [if_pos h2] at hz
    have e2 := decide_eq_true h2;have HZ := Aside0.mk hz;clear hz h1 h2;go_wp2
    go_end0
    have hz := HZ.out;subst hz
    first | exact ⟨_, _, _, rfl, (HS.out.put 3 _ (s' := {bothS s 18 with emb := s.emb - 1}) (vs' := .slice As s.stack.length cst) (vl' := vl2) (vc' := vc2) (by first | rfl | (rw [hw]; rfl)) HS.out.st HS.out.lv HS.out.cl)⟩ | exact ⟨rfl, _, _, _, (HS.out.put 3 _ (s' := {bothS s 18 with emb := s.emb - 1}) (vs' := .slice As s.stack.length cst) (vl' := vl2) (vc' := vc2) (by first | rfl | (rw [hw]; rfl)) HS.out.st HS.out.lv HS.out.cl)⟩
  rw [if_neg h2] at hz;have e2 := decide_eq_false h2;clear h1 h2 f3 hw;have hT := top_w (s := bothS s 18) HS.out HM.out;rw [show tp (bothS s 18) = tp s from rfl] at hT
  cases h3 : (tp s).f2 with
  | true =>
    rw [if_neg (by rw [h3]; simp)] at hz;rw [h3] at hT;have HZ := Aside0.mk hz;clear hz
    go_wp2_with (first
      | (go_at_call 72; refine hT.mono ?_; rintro e_ w5 ⟨rfl, hb⟩; have HS2 := Aside0.mk (HS.out.more hb); clear hb HS; clear a1))
    go_end0
    have hz := HZ.out;subst hz
    first | exact ⟨_, _, _, rfl, HS2.out⟩ | exact ⟨rfl, _, _, _, HS2.out⟩
  | false =>
    rw [h3] at hT
    by_cases h4 : 2 ≤ s.stack.length
    · rw [if_pos ⟨h3, h4⟩] at hz
      have HZ := Aside0.mk hz;have d1 : decide (2 ≤ (s.stack.length : Int)) = true := decide_eq_true (by omega);have d2 := decide_eq_true h4;clear hz
      go_wp2_with (first
        | (go_at_call 72; refine hT.mono ?_; rintro e_ w5 ⟨rfl, hb⟩; have HS2 := Aside0.mk (HS.out.more hb); clear hb HS a1; have a1 : w5.cell? ⟨g, 1, none⟩ = some (.slice As s.stack.length cst) := blk_cell HS2.out.blk 1)
        | (go_at_call 88; refine (pop_w (s := bothS s 18) HS2.out HM.out).mono ?_; rintro e_ w6 ⟨vs3, rfl, hb⟩; have HS3 := Aside0.mk hb; clear hb HS2 a1))
      go_end0
      have hz := HZ.out;subst hz
      first | first | exact ⟨_, _, _, rfl, HS3.out⟩ | exact ⟨rfl, _, _, _, HS3.out⟩ | exact ⟨rfl, _, _, _, HS3.out⟩ | exact ⟨rfl, _, _, _, HS3.out⟩
    · rw [if_neg (fun hh => h4 hh.2)] at hz
      have HZ := Aside0.mk hz;have d1 : decide (2 ≤ (s.stack.length : Int)) = false := decide_eq_false (by omega);have d2 := decide_eq_false h4;clear hz
      go_wp2_with (first
        | (go_at_call 72; refine hT.mono ?_; rintro e_ w5 ⟨rfl, hb⟩; have HS2 := Aside0.mk (HS.out.more hb); clear hb HS a1; have a1 : w5.cell? ⟨g, 1, none⟩ = some (.slice As s.stack.length cst) := blk_cell HS2.out.blk 1))
      go_end0
      have hz := HZ.out;subst hz
      first | exact ⟨_, _, _, rfl, HS2.out⟩ | exact ⟨rfl, _, _, _, HS2.out⟩
end Go.Proofs.Ytmjipbmpapcboaa.P
