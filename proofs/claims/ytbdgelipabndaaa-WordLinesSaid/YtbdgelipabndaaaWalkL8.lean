/-
  Walks, written by program: Lines, WordLines.
-/
import Derived.Test.YtbdgelipabndaaaProg
import Derived.Test.YtbdgelipabndaaaWalkL7
import Derived.Test.YtbdgelipabndaaaWalkL1
set_option linter.unusedSimpArgs false
set_option linter.unusedVariables false
namespace Go.Proofs.Ytbdgelipabndaaa
open Go.RowKit

set_option maxRecDepth 100000 in
set_option maxHeartbeats 1000000 in
theorem lines_any (s : ByteArray) (o : Orig) :
  Calls Try.prog 22 [.string s].toArray o.w (Giv o (fun S v w' => ∃ b, v = .func (.func 27) #[] #[.pointer (some ⟨b, 0, none⟩)] ∧ S b ∧ w'.heap[b]? = some (.cells #[.string s] 9 (0, 0)))) := by
  refine enter Try.f22 4 Try.func22 fun a hA => ?_
  replace hA := env_sub [(0, .string s)] hA
  have H := Fr.start o
  refine go_seq fun K1 hK1 => ?_
  refine region_list ?_
  refine list_at 0 ?_; refine q_box 0 1 9 (.tmp 0) (.string s) [.string s] [] hA H fun b2 a w3 H hA hG hge_b2 => ?_
  clear hge_b2
  refine q_list 1 1 [] [(1, .pointer (some ⟨b2, 0, none⟩))] ((True) ∧ True) hA H ⟨trivial, trivial⟩ fun a w4 hA H hG => ?_
  refine list_end ?_
  refine hK1 _ _ ?_
  refine go_seq fun K5 hK5 => ?_
  refine region_list ?_
  refine list_at 0 ?_; refine q_func 0 3 27 (.tmp 1) (.pointer (some ⟨b2, 0, none⟩)) [] hA H fun a hA => ?_
  refine q_list 1 1 [] [(2, .func (.func 27) #[] #[.pointer (some ⟨b2, 0, none⟩)])] ((True) ∧ True) hA H ⟨trivial, trivial⟩ fun a w6 hA H hG => ?_
  refine list_end ?_
  refine hK5 _ _ ?_
  refine go_ret_ ?_
  refine ret_one 2 (.func (.func 27) #[] #[.pointer (some ⟨b2, 0, none⟩)]) hA ?_
  exact ⟨_, rfl, ⟨_, rfl, .inr ⟨(H.own _ (List.mem_of_getElem? (i := 0) rfl) _ rfl).1, (H.own _ (List.mem_of_getElem? (i := 0) rfl) _ rfl).2.1⟩, H.ok _ (List.mem_of_getElem? (i := 0) rfl)⟩, H.below⟩

set_option maxRecDepth 100000 in
set_option maxHeartbeats 1000000 in
theorem wordLines_any (s : ByteArray) (stop : Int) (w : World) (hst0 : 0 ≤ stop ∧ stop ≤ 255) :
  Calls Try.prog 8 [.string s, .int .u8 stop].toArray w (Ans (.bool true) w) := by
  refine enterM Try.f8 66 Try.func8 fun a hA => ?_
  replace hA := env_sub [(0, .string s), (1, .int .u8 stop)] hA
  have H := Fr.start (org w)
  refine go_seq fun K1 hK1 => ?_
  refine region_list ?_
  refine list_at 0 ?_; refine q_box 0 2 9 (.tmp 0) (.string s) [.string s] [(1, .int .u8 stop)] hA H fun b2 a w3 H hA hG hge_b2 => ?_
  clear hge_b2
  refine list_at 1 ?_; refine q_box 1 3 5 (.tmp 1) (.int .u8 stop) [.int .u8 stop] [(2, .pointer (some ⟨b2, 0, none⟩))] hA H fun b4 a w5 H hA hG hge_b4 => ?_
  clear hge_b4
  refine list_at 2 ?_; refine q_alloc 2 4 4 [.bool false] [(2, .pointer (some ⟨b2, 0, none⟩)), (3, .pointer (some ⟨b4, 0, none⟩))] hA H fun b6 a w7 H hA hG hge_b6 => ?_
  clear hge_b6
  refine list_end ?_
  refine hK1 _ _ ?_
  refine go_seq fun K8 hK8 => ?_
  refine go_seq fun K9 hK9 => ?_
  refine q_reg [(9, .bool true), (12, .string s)] [(2, .pointer (some ⟨b2, 0, none⟩)), (3, .pointer (some ⟨b4, 0, none⟩)), (4, .pointer (some ⟨b6, 0, none⟩)), (15, .bool (decide ((3000 : Int) < (s.size : Int))))] ((Callable Try.prog 9 ∧ CallOk Try.prog (On w7) 9 [].toArray (.bool true)) ∧ (True) ∧ (True) ∧ ((false) = false → CellOk (On w7) b2 (0) (.string s)) ∧ ((false) = false → True) ∧ ((false) = false → True) ∧ (True) ∧ True) hA H ⟨⟨callable_of, callOk_of fun w hw => by exact awake_any w⟩, trivial, trivial, fun _ => by exact box_cell H 2 rfl 0, fun _ => trivial, fun _ => trivial, trivial, trivial⟩ fun a w10 hA H hG => ?_
  refine hK9 _ _ ?_
  refine go_cond hA (.tmp 15) (decide ((3000 : Int) < (s.size : Int))) (fun hb11 => ?_) (fun hb11 => ?_)
  · have hhb11 := of_decide_eq_true hb11
    refine go_seq fun K12 hK12 => ?_
    refine region_list ?_
    refine q_list 0 1 [(16, .bool true)] [(4, .pointer (some ⟨b6, 0, none⟩)), (16, .bool true)] ((Callable Try.prog 9 ∧ CallOk Try.prog (On w10) 9 [].toArray (.bool true)) ∧ True) hA H ⟨⟨callable_of, callOk_of fun w hw => by exact awake_any w⟩, trivial⟩ fun a w13 hA H hG => ?_
    refine list_at 1 ?_; refine q_store 1 4 (.tmp 4) (.tmp 16) 0 b6 (0) 4 [.bool false] [.bool true] [.bool true] (.bool true) [(4, .pointer (some ⟨b6, 0, none⟩))] hA H rfl rfl (Nat.le_of_ble_eq_true (by kernel_rfl)) rfl (fun v hv => by simp only [List.mem_cons, List.not_mem_nil, or_false] at hv; rcases hv with rfl; exact rfl) fun a w14 H hA hG => ?_
    replace H : Fr _ _ _ [.box b6 4 [.bool true], .box b4 5 [.int .u8 stop], .box b2 9 [.string s]] := H
    refine list_end ?_
    refine hK12 _ _ ?_
    refine go_ret_ ?_
    refine ret_M hA (res_cell 4 4 0 b6 4 (.bool true) hA H rfl (by kernel_rfl) (by kernel_rfl) (fun w hc => by simp [loadVar, isAgg, run_underlying Try.underlying4, load, Sem.run, hc])) ?_
    exact ⟨rfl, H.below⟩
  · have hhb11 := of_decide_eq_false hb11
    refine go_skip ?_
    refine hK8 _ _ ?_
    refine go_seq fun K15 hK15 => ?_
    refine region_list ?_
    refine q_list 0 1 [(17, .string s)] [(2, .pointer (some ⟨b2, 0, none⟩)), (3, .pointer (some ⟨b4, 0, none⟩)), (4, .pointer (some ⟨b6, 0, none⟩)), (17, .string s)] ((CellOk (On w10) b2 (0) (.string s)) ∧ True) hA H ⟨by exact box_cell H 2 rfl 0, trivial⟩ fun a w16 hA H hG => ?_
    refine list_at 1 ?_; refine q_call 1 18 21 #[.tmp 17] #[9] [.string s] (fun S v w' => Rd S w' v (linesR s)) [(2, .pointer (some ⟨b2, 0, none⟩)), (3, .pointer (some ⟨b4, 0, none⟩)), (4, .pointer (some ⟨b6, 0, none⟩))] hA H (by exact refLines_any s H.at (by omega)) fun v17 a w18 S hR19 H hA hG => ?_
    replace H := H.ro hR19
    refine list_at 2 ?_; refine q_alloc 2 5 29 [(.slice none 0 0)] [(2, .pointer (some ⟨b2, 0, none⟩)), (3, .pointer (some ⟨b4, 0, none⟩)), (4, .pointer (some ⟨b6, 0, none⟩)), (18, v17)] hA H fun b21 a w22 H hA hG hge_b21 => ?_
    clear hge_b21
    refine list_at 3 ?_; refine q_store 3 29 (.tmp 5) (.tmp 18) 0 b21 (0) 29 [(.slice none 0 0)] [v17] [v17] v17 [(2, .pointer (some ⟨b2, 0, none⟩)), (3, .pointer (some ⟨b4, 0, none⟩)), (4, .pointer (some ⟨b6, 0, none⟩)), (5, .pointer (some ⟨b21, 0, none⟩))] hA H rfl (one_cells (rd_one (H.get 1 rfl))) (Nat.le_of_ble_eq_true (by kernel_rfl)) rfl (fun v hv => by simp only [List.mem_cons, List.not_mem_nil, or_false] at hv; rcases hv with rfl; exact (rd_one (H.get 1 rfl))) fun a w23 H hA hG => ?_
    replace H : Fr _ _ _ [.box b21 29 [v17], .ro v17 (linesR s), .box b6 4 [.bool false], .box b4 5 [.int .u8 stop], .box b2 9 [.string s]] := H
    refine list_end ?_
    refine hK15 _ _ ?_
    refine go_seq fun K24 hK24 => ?_
    refine region_list ?_
    refine list_at 0 ?_; refine q_alloc 0 6 3 [.int .i64 0] [(2, .pointer (some ⟨b2, 0, none⟩)), (3, .pointer (some ⟨b4, 0, none⟩)), (4, .pointer (some ⟨b6, 0, none⟩)), (5, .pointer (some ⟨b21, 0, none⟩))] hA H fun b25 a w26 H hA hG hge_b25 => ?_
    clear hge_b25
    refine list_at 1 ?_; refine q_store 1 3 (.tmp 6) (.const (.int .i64 0)) 0 b25 (0) 3 [.int .i64 0] [.int .i64 0] [.int .i64 0] (.int .i64 0) [(2, .pointer (some ⟨b2, 0, none⟩)), (3, .pointer (some ⟨b4, 0, none⟩)), (4, .pointer (some ⟨b6, 0, none⟩)), (5, .pointer (some ⟨b21, 0, none⟩)), (6, .pointer (some ⟨b25, 0, none⟩))] hA H rfl rfl (Nat.le_of_ble_eq_true (by kernel_rfl)) rfl (fun v hv => by simp only [List.mem_cons, List.not_mem_nil, or_false] at hv; rcases hv with rfl; exact rfl) fun a w27 H hA hG => ?_
    replace H : Fr _ _ _ [.box b25 3 [.int .i64 0], .box b21 29 [v17], .ro v17 (linesR s), .box b6 4 [.bool false], .box b4 5 [.int .u8 stop], .box b2 9 [.string s]] := H
    refine list_end ?_
    refine hK24 _ _ ?_
    refine go_seq fun K28 hK28 => ?_
    refine go_seq fun K29 hK29 => ?_
    refine region_list ?_
    refine q_list 0 1 [(19, .string s)] [(2, .pointer (some ⟨b2, 0, none⟩)), (3, .pointer (some ⟨b4, 0, none⟩)), (4, .pointer (some ⟨b6, 0, none⟩)), (5, .pointer (some ⟨b21, 0, none⟩)), (6, .pointer (some ⟨b25, 0, none⟩)), (19, .string s)] ((CellOk (On w27) b2 (0) (.string s)) ∧ True) hA H ⟨by exact box_cell H 5 rfl 0, trivial⟩ fun a w30 hA H hG => ?_
    refine list_at 1 ?_; refine q_call 1 20 22 #[.tmp 19] #[9] [.string s] (fun S v w' => ∃ b, v = .func (.func 27) #[] #[.pointer (some ⟨b, 0, none⟩)] ∧ S b ∧ w'.heap[b]? = some (.cells #[.string s] 9 (0, 0))) [(2, .pointer (some ⟨b2, 0, none⟩)), (3, .pointer (some ⟨b4, 0, none⟩)), (4, .pointer (some ⟨b6, 0, none⟩)), (5, .pointer (some ⟨b21, 0, none⟩)), (6, .pointer (some ⟨b25, 0, none⟩))] hA H (by exact lines_any s H.at) fun v31 a w32 S hR33 H hA hG => ?_
    obtain ⟨bc, rfl, hSbc, hbc⟩ := hR33
    refine list_end ?_
    refine hK29 _ _ ?_
    refine go_block 0 ?_
    have hSlt : ∀ k, S k → k < w32.heap.size := H.inb
    have hoB := H.below.size
    have hbclt : bc < w32.heap.size := H.inb bc hSbc
    have hM : (linesR s).length ≤ s.size + 1 := linesR_len s
    refine go_rangeFunc (α := Int × ByteArray) (encs := fun x => #[.int .i64 x.1, .string x.2]) (Sx := fun xs => xs = linesS s) (Sp := preS s) (N := s.size + 1) 27 bc (.tmp 20) #[21, 22] hA hbclt ?_ (fun _ => rfl) (fun pre W => Fr (org w) W S [.box b25 3 [.int .i64 (pre.length : Int)], .box b21 29 [v17], .ro v17 (linesR s), .box b6 4 [.bool false], .box b4 5 [.int .u8 stop], .box b2 9 [.string s]] ∧ preS s pre ∧ (0 < stop → (pre.length : Int) < stop)) (fun c pre W => c = .ret ∧ ∃ (k : Int) (r : Bool), Fr (org w) W S [.box b25 3 [.int .i64 k], .box b21 29 [v17], .ro v17 (linesR s), .box b6 4 [.bool r], .box b4 5 [.int .u8 stop], .box b2 9 [.string s]] ∧ (preS s pre → r = true)) ?_ ?_ ⟨H, ⟨_, rfl⟩, fun h => h⟩ (fun x a' _ => EnvOk 66 a' (keepEnv [(2, .pointer (some ⟨b2, 0, none⟩)), (3, .pointer (some ⟨b4, 0, none⟩)), (4, .pointer (some ⟨b6, 0, none⟩)), (5, .pointer (some ⟨b21, 0, none⟩)), (6, .pointer (some ⟨b25, 0, none⟩)), (7, .int .i64 x.1), (8, .string x.2)])) ?_ ?_ ?_ ?_ ?_
    · intro l J Jx W hW hJ hJx hY h0; exact callsIn_wide.2 (lines1_any l bc s J Jx W (by omega) ((hW.block bc hbclt).trans hbc) hJ hJx hY h0)
    · intro pre W W2 row hs hg hr; exact ⟨fr_from hSlt hoB (by intro r_ hr_; simp only [List.mem_cons, List.not_mem_nil, or_false] at hr_; rcases hr_ with rfl | rfl | rfl | rfl | rfl | rfl <;> exact trivial) hs.1 hg hr, hs.2⟩
    · intro c pre W W2 row hs hg hr; obtain ⟨h1, k, r, h2, h3⟩ := hs; exact ⟨h1, k, r, fr_from hSlt hoB (by intro r_ hr_; simp only [List.mem_cons, List.not_mem_nil, or_false] at hr_; rcases hr_ with rfl | rfl | rfl | rfl | rfl | rfl <;> exact trivial) h2 hg hr, h3⟩
    · intro x a2 u W W2 row hs hg hr; exact hs
    · intro l pre x W K hi hk
      obtain ⟨x1, x2⟩ := x; obtain ⟨H, hpre, hst⟩ := hi; have hrk := RK.refl S W; have hbw : bc < W.heap.size := H.inb bc hSbc
      have hA2 := env_round 21 22 (.int .i64 x1) (.string x2) [(2, .pointer (some ⟨b2, 0, none⟩)), (3, .pointer (some ⟨b4, 0, none⟩)), (4, .pointer (some ⟨b6, 0, none⟩)), (5, .pointer (some ⟨b21, 0, none⟩)), (6, .pointer (some ⟨b25, 0, none⟩))] hA
      have hA := hA2; clear hA2
      show (sub _ _).wpIn (Rnd l) 0 _ _ { tmps := ((#[21, 22] : Array Tmp).zip #[.int .i64 x1, .string x2]).foldl (fun t (p, v) => t.setIfInBounds p v) _, defers := [] } W
      generalize ({ tmps := ((#[21, 22] : Array Tmp).zip #[.int .i64 x1, .string x2]).foldl (fun t (p, v) => t.setIfInBounds p v) _, defers := [] } : Act) = a at hA ⊢
      refine go_seqR fun K34 hK34 => ?_
      refine region_listR ?_ (fun h => by obtain ⟨_, _, h⟩ := h; exact (h : False))
      refine q_list 0 1 [] [(2, .pointer (some ⟨b2, 0, none⟩)), (3, .pointer (some ⟨b4, 0, none⟩)), (4, .pointer (some ⟨b6, 0, none⟩)), (5, .pointer (some ⟨b21, 0, none⟩)), (6, .pointer (some ⟨b25, 0, none⟩)), (7, .int .i64 x1), (21, .int .i64 x1), (22, .string x2)] ((True) ∧ True) hA H ⟨trivial, trivial⟩ fun a w35 hA H hG => ?_
      replace hrk := hrk.on hG
      refine list_end ?_
      refine hK34 _ _ ?_
      refine region_listR ?_ (fun h => by obtain ⟨_, _, h⟩ := h; exact (h : False))
      refine q_list 0 1 [] [(2, .pointer (some ⟨b2, 0, none⟩)), (3, .pointer (some ⟨b4, 0, none⟩)), (4, .pointer (some ⟨b6, 0, none⟩)), (5, .pointer (some ⟨b21, 0, none⟩)), (6, .pointer (some ⟨b25, 0, none⟩)), (7, .int .i64 x1), (8, .string x2), (21, .int .i64 x1), (22, .string x2)] ((True) ∧ True) hA H ⟨trivial, trivial⟩ fun a w36 hA H hG => ?_
      replace hrk := hrk.on hG
      refine list_end ?_
      exact hk _ _ (hrk.kf _) (hrk.kp hSbc hbw) ⟨H, hpre, hst⟩ (env_sub [(2, .pointer (some ⟨b2, 0, none⟩)), (3, .pointer (some ⟨b4, 0, none⟩)), (4, .pointer (some ⟨b6, 0, none⟩)), (5, .pointer (some ⟨b21, 0, none⟩)), (6, .pointer (some ⟨b25, 0, none⟩)), (7, .int .i64 x1), (8, .string x2)] hA)
    · intro l pre x a W hi hA hlen
      obtain ⟨x1, x2⟩ := x; obtain ⟨H, hpre, hst⟩ := hi; have hrk := RK.refl S W; have hbw : bc < W.heap.size := H.inb bc hSbc
      replace hA : EnvOk 66 a (keepEnv [(2, .pointer (some ⟨b2, 0, none⟩)), (3, .pointer (some ⟨b4, 0, none⟩)), (4, .pointer (some ⟨b6, 0, none⟩)), (5, .pointer (some ⟨b21, 0, none⟩)), (6, .pointer (some ⟨b25, 0, none⟩)), (7, .int .i64 x1), (8, .string x2)]) := hA
      have hpl := pre_len hpre
      have hok : (pre.length : Int) < ((linesR s).length : Int) → 0 ≤ ((linesR s).getD ((pre.length : Int)).toNat (0, 0)).1 ∧ ((linesR s).getD ((pre.length : Int)).toNat (0, 0)).1 ≤ ((linesR s).getD ((pre.length : Int)).toNat (0, 0)).2 ∧ ((linesR s).getD ((pre.length : Int)).toNat (0, 0)).2 ≤ (s.size : Int) := fun h => linesR_ok (by omega)
      refine go_blockR 1 ?_
      refine go_seqR fun K37 hK37 => ?_
      refine go_seqR fun K38 hK38 => ?_
      have H0 := H
      have hM0 := H0.keeps none (.inl rfl)
      refine region_mixR (But W none) [0, 1, 2, 3, 4, 5, 6, 7, 8, 9, 10, 11, 12, 13, 14, 15, 16, 17, 18, 19, 20, 21, 22, 23, 24, 25, 26, 27, 28] 29 ?_ (fun h => by obtain ⟨_, _, h⟩ := h; exact (h : False))
      replace H := H.drawn; have hD := But.drew W none; replace hrk := hrk.drawn
      generalize ({ W with drawn := W.drawn + 1 } : World) = w39 at H hD hrk ⊢
      refine m_takeE (n := 0) [] [0, 1, 2, 3, 4, 5, 6, 7, 8, 9, 10, 11, 12, 13, 14, 15, 16, 17, 18, 19, 20, 21, 22, 23, 24, 25, 26, 27, 28] #[true, true, true, true, true, true, true, true, true, true, true, true, true, true, true, true, true, true, true, true, true, true, true, true, true, true, true, true, true] [(23, .int .i64 (pre.length : Int)), (24, v17), (25, .int .i64 ((linesR s).length : Int)), (29, v17), (30, .int .i64 (pre.length : Int)), (33, .int .i64 (((linesR s).getD (pre.length : Int).toNat (0, 0)).1)), (38, .string s), (39, v17), (40, .int .i64 (pre.length : Int)), (43, .int .i64 (((linesR s).getD (pre.length : Int).toNat (0, 0)).1)), (44, v17), (45, .int .i64 (pre.length : Int)), (48, .int .i64 (((linesR s).getD (pre.length : Int).toNat (0, 0)).2)), (49, .string (s.extract (((linesR s).getD (pre.length : Int).toNat (0, 0)).1).toNat (((linesR s).getD (pre.length : Int).toNat (0, 0)).2).toNat))] [⟨2, [], .pointer (some ⟨b2, 0, none⟩)⟩, ⟨3, [], .pointer (some ⟨b4, 0, none⟩)⟩, ⟨4, [], .pointer (some ⟨b6, 0, none⟩)⟩, ⟨5, [], .pointer (some ⟨b21, 0, none⟩)⟩, ⟨6, [], .pointer (some ⟨b25, 0, none⟩)⟩, ⟨7, [], .int .i64 x1⟩, ⟨8, [], .string x2⟩, ⟨51, [], .bool (((decide (((linesR s).length : Int) ≤ (pre.length : Int))) || (!decide (x1 = ((linesR s).getD (pre.length : Int).toNat (0, 0)).1))) || (!(x2.toList == (s.extract (((linesR s).getD (pre.length : Int).toNat (0, 0)).1).toNat (((linesR s).getD (pre.length : Int).toNat (0, 0)).2).toNat).toList)))⟩] (((True) ∧ (CellOk (But W none) b25 (0) (.int .i64 (pre.length : Int)))) ∧ ((True) ∧ (CellOk (But W none) b21 (0) (v17))) ∧ ((True) ∧ (LenOk v17 ((linesR s).length : Int))) ∧ ((True) ∧ (True)) ∧ ((True) ∧ (True)) ∧ ((True) ∧ ((decide (((linesR s).length : Int) ≤ (pre.length : Int))) = false → True)) ∧ ((True) ∧ ((decide (((linesR s).length : Int) ≤ (pre.length : Int))) = false → CellOk (But W none) b21 (0) (v17))) ∧ ((True) ∧ ((decide (((linesR s).length : Int) ≤ (pre.length : Int))) = false → CellOk (But W none) b25 (0) (.int .i64 (pre.length : Int)))) ∧ ((True) ∧ ((decide (((linesR s).length : Int) ≤ (pre.length : Int))) = false → (Try.prog.info? 32).isSome = true ∧ IdxOk v17 (pre.length : Int))) ∧ ((True) ∧ ((decide (((linesR s).length : Int) ≤ (pre.length : Int))) = false → 0 < Try.prog.cellsOf 3)) ∧ ((True) ∧ ((decide (((linesR s).length : Int) ≤ (pre.length : Int))) = false → CellOk (But W none) (hdB v17) (hdO v17 + (pre.length : Int).toNat * 2 + 0) (.int .i64 (((linesR s).getD (pre.length : Int).toNat (0, 0)).1)))) ∧ ((True) ∧ ((decide (((linesR s).length : Int) ≤ (pre.length : Int))) = false → True)) ∧ ((True) ∧ (True)) ∧ ((True) ∧ (True)) ∧ ((True) ∧ (((decide (((linesR s).length : Int) ≤ (pre.length : Int))) || (!decide (x1 = ((linesR s).getD (pre.length : Int).toNat (0, 0)).1))) = false → True)) ∧ ((True) ∧ (((decide (((linesR s).length : Int) ≤ (pre.length : Int))) || (!decide (x1 = ((linesR s).getD (pre.length : Int).toNat (0, 0)).1))) = false → CellOk (But W none) b2 (0) (.string s))) ∧ ((True) ∧ (((decide (((linesR s).length : Int) ≤ (pre.length : Int))) || (!decide (x1 = ((linesR s).getD (pre.length : Int).toNat (0, 0)).1))) = false → CellOk (But W none) b21 (0) (v17))) ∧ ((True) ∧ (((decide (((linesR s).length : Int) ≤ (pre.length : Int))) || (!decide (x1 = ((linesR s).getD (pre.length : Int).toNat (0, 0)).1))) = false → CellOk (But W none) b25 (0) (.int .i64 (pre.length : Int)))) ∧ ((True) ∧ (((decide (((linesR s).length : Int) ≤ (pre.length : Int))) || (!decide (x1 = ((linesR s).getD (pre.length : Int).toNat (0, 0)).1))) = false → (Try.prog.info? 32).isSome = true ∧ IdxOk v17 (pre.length : Int))) ∧ ((True) ∧ (((decide (((linesR s).length : Int) ≤ (pre.length : Int))) || (!decide (x1 = ((linesR s).getD (pre.length : Int).toNat (0, 0)).1))) = false → 0 < Try.prog.cellsOf 3)) ∧ ((True) ∧ (((decide (((linesR s).length : Int) ≤ (pre.length : Int))) || (!decide (x1 = ((linesR s).getD (pre.length : Int).toNat (0, 0)).1))) = false → CellOk (But W none) (hdB v17) (hdO v17 + (pre.length : Int).toNat * 2 + 0) (.int .i64 (((linesR s).getD (pre.length : Int).toNat (0, 0)).1)))) ∧ ((True) ∧ (((decide (((linesR s).length : Int) ≤ (pre.length : Int))) || (!decide (x1 = ((linesR s).getD (pre.length : Int).toNat (0, 0)).1))) = false → CellOk (But W none) b21 (0) (v17))) ∧ ((True) ∧ (((decide (((linesR s).length : Int) ≤ (pre.length : Int))) || (!decide (x1 = ((linesR s).getD (pre.length : Int).toNat (0, 0)).1))) = false → CellOk (But W none) b25 (0) (.int .i64 (pre.length : Int)))) ∧ ((True) ∧ (((decide (((linesR s).length : Int) ≤ (pre.length : Int))) || (!decide (x1 = ((linesR s).getD (pre.length : Int).toNat (0, 0)).1))) = false → (Try.prog.info? 32).isSome = true ∧ IdxOk v17 (pre.length : Int))) ∧ ((True) ∧ (((decide (((linesR s).length : Int) ≤ (pre.length : Int))) || (!decide (x1 = ((linesR s).getD (pre.length : Int).toNat (0, 0)).1))) = false → 0 < Try.prog.cellsOf 3)) ∧ ((True) ∧ (((decide (((linesR s).length : Int) ≤ (pre.length : Int))) || (!decide (x1 = ((linesR s).getD (pre.length : Int).toNat (0, 0)).1))) = false → CellOk (But W none) (hdB v17) (hdO v17 + (pre.length : Int).toNat * 2 + 1) (.int .i64 (((linesR s).getD (pre.length : Int).toNat (0, 0)).2)))) ∧ ((True) ∧ (((decide (((linesR s).length : Int) ≤ (pre.length : Int))) || (!decide (x1 = ((linesR s).getD (pre.length : Int).toNat (0, 0)).1))) = false → ∀ w, (Instr.sliceAt 9 (.string s) (some (.int .i64 (((linesR s).getD (pre.length : Int).toNat (0, 0)).1))) (some (.int .i64 (((linesR s).getD (pre.length : Int).toNat (0, 0)).2))) none).run Try.prog w = .ok (.string (s.extract (((linesR s).getD (pre.length : Int).toNat (0, 0)).1).toNat (((linesR s).getD (pre.length : Int).toNat (0, 0)).2).toNat)) w)) ∧ ((True) ∧ (((decide (((linesR s).length : Int) ≤ (pre.length : Int))) || (!decide (x1 = ((linesR s).getD (pre.length : Int).toNat (0, 0)).1))) = false → True)) ∧ ((True) ∧ (True)) ∧ True) hA hD ⟨⟨trivial, by exact box_cellC (box_atC H0 none 0 rfl (fun e => by cases e)) 0⟩, ⟨trivial, by exact box_cellC (box_atC H0 none 1 rfl (fun e => by cases e)) 0⟩, ⟨trivial, by exact len_ok (H0.getT 2 rfl)⟩, ⟨trivial, trivial⟩, ⟨trivial, trivial⟩, ⟨trivial, fun _ => trivial⟩, ⟨trivial, fun _ => by exact box_cellC (box_atC H0 none 1 rfl (fun e => by cases e)) 0⟩, ⟨trivial, fun _ => by exact box_cellC (box_atC H0 none 0 rfl (fun e => by cases e)) 0⟩, ⟨trivial, fun hg0 => by replace hg0 := of_decide_eq_false hg0; exact ⟨by kernel_rfl, by exact idx_ok (H0.getT 2 rfl) (by omega) (by omega)⟩⟩, ⟨trivial, fun _ => by decide +kernel⟩, ⟨trivial, fun hg0 => by replace hg0 := of_decide_eq_false hg0; exact by exact cell_flatC hM0 (i := (pre.length : Int)) (H0.getT 2 rfl) (by omega) (by omega) (0, 0) 0⟩, ⟨trivial, fun _ => trivial⟩, ⟨trivial, trivial⟩, ⟨trivial, trivial⟩, ⟨trivial, fun _ => trivial⟩, ⟨trivial, fun _ => by exact box_cellC (box_atC H0 none 5 rfl (fun e => by cases e)) 0⟩, ⟨trivial, fun _ => by exact box_cellC (box_atC H0 none 1 rfl (fun e => by cases e)) 0⟩, ⟨trivial, fun _ => by exact box_cellC (box_atC H0 none 0 rfl (fun e => by cases e)) 0⟩, ⟨trivial, fun hg0 => by replace hg0 := (⟨of_decide_eq_false ((oF hg0).1), of_decide_eq_true (nF ((oF hg0).2))⟩ : _ ∧ _); exact ⟨by kernel_rfl, by exact idx_ok (H0.getT 2 rfl) (by omega) (by omega)⟩⟩, ⟨trivial, fun _ => by decide +kernel⟩, ⟨trivial, fun hg0 => by replace hg0 := (⟨of_decide_eq_false ((oF hg0).1), of_decide_eq_true (nF ((oF hg0).2))⟩ : _ ∧ _); exact by exact cell_flatC hM0 (i := (pre.length : Int)) (H0.getT 2 rfl) (by omega) (by omega) (0, 0) 0⟩, ⟨trivial, fun _ => by exact box_cellC (box_atC H0 none 1 rfl (fun e => by cases e)) 0⟩, ⟨trivial, fun _ => by exact box_cellC (box_atC H0 none 0 rfl (fun e => by cases e)) 0⟩, ⟨trivial, fun hg0 => by replace hg0 := (⟨of_decide_eq_false ((oF hg0).1), of_decide_eq_true (nF ((oF hg0).2))⟩ : _ ∧ _); exact ⟨by kernel_rfl, by exact idx_ok (H0.getT 2 rfl) (by omega) (by omega)⟩⟩, ⟨trivial, fun _ => by decide +kernel⟩, ⟨trivial, fun hg0 => by replace hg0 := (⟨of_decide_eq_false ((oF hg0).1), of_decide_eq_true (nF ((oF hg0).2))⟩ : _ ∧ _); exact by exact cell_flatC hM0 (i := (pre.length : Int)) (H0.getT 2 rfl) (by omega) (by omega) (0, 0) 1⟩, ⟨trivial, fun hg0 => by replace hg0 := (⟨of_decide_eq_false ((oF hg0).1), of_decide_eq_true (nF ((oF hg0).2))⟩ : _ ∧ _); exact fun w => slice_str_lh Try.underlying9 w (by omega) (by omega) (by omega)⟩, ⟨trivial, fun _ => trivial⟩, ⟨trivial, trivial⟩, trivial⟩ fun a hA => ?_
      refine m_end ?_
      refine hK38 _ _ ?_
      refine go_condR hA (.tmp 51) (((decide (((linesR s).length : Int) ≤ (pre.length : Int))) || (!decide (x1 = ((linesR s).getD (pre.length : Int).toNat (0, 0)).1))) || (!(x2.toList == (s.extract (((linesR s).getD (pre.length : Int).toNat (0, 0)).1).toNat (((linesR s).getD (pre.length : Int).toNat (0, 0)).2).toNat).toList))) (fun hb40 => ?_) (fun hb40 => ?_)
      · have hhb40 := (oT hb40).imp (fun h => (oT h).imp (fun h => of_decide_eq_true h) (fun h => of_decide_eq_false (nT h))) (fun h => str_F (nT h))
        refine go_seqR fun K41 hK41 => ?_
        refine region_listR ?_ (fun h => by obtain ⟨_, _, h⟩ := h; exact (h : False))
        have hbx := H.boxAt 3 rfl
        refine list_at 0 ?_; refine q_store 0 4 (.tmp 4) (.const (.bool false)) 3 b6 (0) 4 [.bool false] [.bool false] [.bool false] (.bool false) [(4, .pointer (some ⟨b6, 0, none⟩))] hA H rfl rfl (Nat.le_of_ble_eq_true (by kernel_rfl)) rfl (fun v hv => by simp only [List.mem_cons, List.not_mem_nil, or_false] at hv; rcases hv with rfl; exact rfl) fun a w42 H hA hG => ?_
        replace H : Fr _ _ _ [.box b25 3 [.int .i64 (pre.length : Int)], .box b21 29 [v17], .ro v17 (linesR s), .box b6 4 [.bool false], .box b4 5 [.int .u8 stop], .box b2 9 [.string s]] := H
        replace hrk := hrk.store hbx hG
        refine list_end ?_
        refine hK41 _ _ ?_
        refine go_ret_R ?_
        exact ⟨hrk.kf _, rfl, _, _, H, fun hp => (lines_bad hpre hp hhb40).elim⟩
      · have hhb40 := (⟨(⟨of_decide_eq_false ((oF ((oF hb40).1)).1), of_decide_eq_true (nF ((oF ((oF hb40).1)).2))⟩ : _ ∧ _), str_T (nF ((oF hb40).2))⟩ : _ ∧ _)
        refine go_skipR ?_
        refine hK37 _ _ ?_
        refine go_seqR fun K43 hK43 => ?_
        refine region_listR ?_ (fun h => by obtain ⟨_, _, h⟩ := h; exact (h : False))
        refine q_list 0 2 [(52, .int .i64 (pre.length : Int))] [(2, .pointer (some ⟨b2, 0, none⟩)), (3, .pointer (some ⟨b4, 0, none⟩)), (4, .pointer (some ⟨b6, 0, none⟩)), (5, .pointer (some ⟨b21, 0, none⟩)), (6, .pointer (some ⟨b25, 0, none⟩)), (7, .int .i64 x1), (8, .string x2), (53, .int .i64 ((pre.length : Int) + 1))] ((CellOk (On w39) b25 (0) (.int .i64 (pre.length : Int))) ∧ (InR .i64 ((pre.length : Int) + 1)) ∧ True) hA H ⟨by exact box_cell H 0 rfl 0, ⟨by omega, by omega⟩, trivial⟩ fun a w44 hA H hG => ?_
        replace hrk := hrk.on hG
        have hbx := H.boxAt 0 rfl
        refine list_at 2 ?_; refine q_store 2 3 (.tmp 6) (.tmp 53) 0 b25 (0) 3 [.int .i64 (pre.length : Int)] [.int .i64 ((pre.length : Int) + 1)] [.int .i64 ((pre.length : Int) + 1)] (.int .i64 ((pre.length : Int) + 1)) [(2, .pointer (some ⟨b2, 0, none⟩)), (3, .pointer (some ⟨b4, 0, none⟩)), (4, .pointer (some ⟨b6, 0, none⟩)), (5, .pointer (some ⟨b21, 0, none⟩)), (6, .pointer (some ⟨b25, 0, none⟩)), (7, .int .i64 x1), (8, .string x2)] hA H rfl rfl (Nat.le_of_ble_eq_true (by kernel_rfl)) rfl (fun v hv => by simp only [List.mem_cons, List.not_mem_nil, or_false] at hv; rcases hv with rfl; exact rfl) fun a w45 H hA hG => ?_
        replace H : Fr _ _ _ [.box b25 3 [.int .i64 ((pre.length : Int) + 1)], .box b21 29 [v17], .ro v17 (linesR s), .box b6 4 [.bool false], .box b4 5 [.int .u8 stop], .box b2 9 [.string s]] := H
        replace hrk := hrk.store hbx hG
        refine list_end ?_
        refine hK43 _ _ ?_
        refine go_seqR fun K46 hK46 => ?_
        refine region_listR ?_ (fun h => by obtain ⟨_, _, h⟩ := h; exact (h : False))
        refine q_list 0 8 [(54, .int .i64 ((pre.length : Int) + 1)), (55, .int .u8 stop), (59, .int .u8 stop)] [(2, .pointer (some ⟨b2, 0, none⟩)), (3, .pointer (some ⟨b4, 0, none⟩)), (4, .pointer (some ⟨b6, 0, none⟩)), (5, .pointer (some ⟨b21, 0, none⟩)), (6, .pointer (some ⟨b25, 0, none⟩)), (7, .int .i64 x1), (8, .string x2), (61, .bool ((decide (stop ≤ (pre.length : Int) + 1)) && (decide ((0 : Int) < stop))))] ((CellOk (On w45) b25 (0) (.int .i64 ((pre.length : Int) + 1))) ∧ (CellOk (On w45) b4 (0) (.int .u8 stop)) ∧ (InR .i64 stop) ∧ (True) ∧ (True) ∧ ((decide (stop ≤ (pre.length : Int) + 1)) = true → CellOk (On w45) b4 (0) (.int .u8 stop)) ∧ ((decide (stop ≤ (pre.length : Int) + 1)) = true → True) ∧ (True) ∧ True) hA H ⟨by exact box_cell H 0 rfl 0, by exact box_cell H 4 rfl 0, ⟨by omega, by omega⟩, trivial, trivial, fun _ => by exact box_cell H 4 rfl 0, fun _ => trivial, trivial, trivial⟩ fun a w47 hA H hG => ?_
        replace hrk := hrk.on hG
        refine list_end ?_
        refine hK46 _ _ ?_
        refine go_condR hA (.tmp 61) ((decide (stop ≤ (pre.length : Int) + 1)) && (decide ((0 : Int) < stop))) (fun hb48 => ?_) (fun hb48 => ?_)
        · have hhb48 := (⟨of_decide_eq_true ((aT hb48).1), of_decide_eq_true ((aT hb48).2)⟩ : _ ∧ _)
          refine go_seqR fun K49 hK49 => ?_
          refine region_listR ?_ (fun h => by obtain ⟨_, _, h⟩ := h; exact (h : False))
          have hbx := H.boxAt 3 rfl
          refine list_at 0 ?_; refine q_store 0 4 (.tmp 4) (.const (.bool true)) 3 b6 (0) 4 [.bool false] [.bool true] [.bool true] (.bool true) [(4, .pointer (some ⟨b6, 0, none⟩))] hA H rfl rfl (Nat.le_of_ble_eq_true (by kernel_rfl)) rfl (fun v hv => by simp only [List.mem_cons, List.not_mem_nil, or_false] at hv; rcases hv with rfl; exact rfl) fun a w50 H hA hG => ?_
          replace H : Fr _ _ _ [.box b25 3 [.int .i64 ((pre.length : Int) + 1)], .box b21 29 [v17], .ro v17 (linesR s), .box b6 4 [.bool true], .box b4 5 [.int .u8 stop], .box b2 9 [.string s]] := H
          replace hrk := hrk.store hbx hG
          refine list_end ?_
          refine hK49 _ _ ?_
          refine go_ret_R ?_
          exact ⟨hrk.kf _, rfl, _, _, H, fun _ => rfl⟩
        · have hhb48 := (aF hb48).imp (fun h => of_decide_eq_false h) (fun h => of_decide_eq_false h)
          refine go_skipR ?_
          have hmore : preS s (pre ++ [(x1, x2)]) := lines_ok hpre hhb40
          have hl1 : ((pre ++ [(x1, x2)]).length : Int) = (pre.length : Int) + 1 := by simp
          rw [← hl1] at H
          exact ⟨hrk.kf _, hrk.kp hSbc hbw, H, hmore, fun h => by omega⟩
    · intro D xs W hDB hS hi hDf
      obtain ⟨H, hpre, hst⟩ := hi; subst hS
      refine hK28 _ _ ?_
      refine go_seq fun K51 hK51 => ?_
      refine region_listD (a := a) hA.2.1 ?_
      refine q_list 0 4 [(62, .int .i64 ((linesS s).length : Int)), (63, v17), (64, .int .i64 ((linesR s).length : Int))] [(4, .pointer (some ⟨b6, 0, none⟩)), (65, .bool (decide (((linesS s).length : Int) = ((linesR s).length : Int))))] ((CellOk (On W) b25 (0) (.int .i64 ((linesS s).length : Int))) ∧ (CellOk (On W) b21 (0) (v17)) ∧ (LenOk v17 ((linesR s).length : Int)) ∧ (True) ∧ True) hA H ⟨by exact box_cell H 0 rfl 0, by exact box_cell H 1 rfl 0, by exact len_ok (H.get 2 rfl), trivial, trivial⟩ fun a w52 hA H hG => ?_
      replace hDf := rangeDB hDf hG
      have hne := boxNe hDf H 3 rfl
      refine list_at 4 ?_; refine q_store 4 4 (.tmp 4) (.tmp 65) 3 b6 (0) 4 [.bool false] [.bool (decide (((linesS s).length : Int) = ((linesR s).length : Int)))] [.bool (decide (((linesS s).length : Int) = ((linesR s).length : Int)))] (.bool (decide (((linesS s).length : Int) = ((linesR s).length : Int)))) [(4, .pointer (some ⟨b6, 0, none⟩))] hA H rfl rfl (Nat.le_of_ble_eq_true (by kernel_rfl)) rfl (fun v hv => by simp only [List.mem_cons, List.not_mem_nil, or_false] at hv; rcases hv with rfl; exact rfl) fun a w53 H hA hG => ?_
      replace H : Fr _ _ _ [.box b25 3 [.int .i64 ((linesS s).length : Int)], .box b21 29 [v17], .ro v17 (linesR s), .box b6 4 [.bool (decide (((linesS s).length : Int) = ((linesR s).length : Int)))], .box b4 5 [.int .u8 stop], .box b2 9 [.string s]] := H
      replace hDf := rangeD hDf hG hne
      refine list_end ?_
      refine hK51 _ _ ?_
      refine go_ret_ ?_
      rw [hA.2.1, List.nil_append]
      have H2 := fr_from hSlt hoB (by intro r_ hr_; simp only [List.mem_cons, List.not_mem_nil, or_false] at hr_; rcases hr_ with rfl | rfl | rfl | rfl | rfl | rfl <;> exact trivial) H (grownBy_putObj' _ D (.deferred none)) (fun r_ e_ => by cases e_; exact ⟨hDB, _, hDf, rfl⟩)
      refine ret_MD (D := D) hDf rfl (res_cell 4 4 3 b6 4 (.bool (decide (((linesS s).length : Int) = ((linesR s).length : Int)))) hA H2 rfl (by kernel_rfl) (by kernel_rfl) (fun w hc => by simp [loadVar, isAgg, run_underlying Try.underlying4, load, Sem.run, hc])) ?_
      exact ⟨by rw [show (decide (((linesS s).length : Int) = ((linesR s).length : Int))) = true from by simp [linesS_len]], H2.below⟩
    · intro D c pre W hDB hSp hIx hDf
      obtain ⟨rfl, k, r, H, hr⟩ := hIx; have hr := hr hSp; subst hr
      refine wp_ret ?_
      have H2 := fr_from hSlt hoB (by intro r_ hr_; simp only [List.mem_cons, List.not_mem_nil, or_false] at hr_; rcases hr_ with rfl | rfl | rfl | rfl | rfl | rfl <;> exact trivial) H (grownBy_putObj' _ D (.deferred none)) (fun r_ e_ => by cases e_; exact ⟨hDB, _, hDf, rfl⟩)
      refine ret_MD (D := D) hDf rfl (res_cell 4 4 3 b6 4 (.bool (true)) hA H2 rfl (by kernel_rfl) (by kernel_rfl) (fun w hc => by simp [loadVar, isAgg, run_underlying Try.underlying4, load, Sem.run, hc])) ?_
      exact ⟨by rw [show (true) = true from rfl], H2.below⟩

end Go.Proofs.Ytbdgelipabndaaa
