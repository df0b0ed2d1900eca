/-
  Walks, written by program: And, Or.
-/
import Derived.Test.YtahonnlgkmimlaaProg
import Derived.Test.YtahonnlgkmimlaaWalkG3
import Derived.Test.YtahonnlgkmimlaaWalkG2
import Derived.Test.YtahonnlgkmimlaaEngK
import Derived.Test.YtahonnlgkmimlaaTabG
set_option linter.unusedSimpArgs false
set_option linter.unusedVariables false
namespace Go.Proofs.Ytahonnlgkmimlaa
open Go.RowKit

set_option maxRecDepth 100000 in
set_option maxHeartbeats 1000000 in
theorem and_any (va ea vb eb : Value) (A B C D : List Int) (o : Orig) (gA : Rd (· < o.w.heap.size) o.w va A) (gB : Rd (· < o.w.heap.size) o.w ea B) (gC : Rd (· < o.w.heap.size) o.w vb C) (gD : Rd (· < o.w.heap.size) o.w eb D) (hs1 : A.length + C.length ≤ 1000000000) (hs2 : B.length + D.length ≤ 1000000000) :
  Calls Try.prog 42 [.agg #[va, ea], .agg #[vb, eb]].toArray o.w (Giv o (fun S v w' => Rd S w' v ((mergeL A C 2, mergeL B D 2)))) := by
  refine enter Try.f42 16 Try.func42 fun a hA => ?_
  replace hA := env_sub [(0, .agg #[va, ea]), (1, .agg #[vb, eb])] hA
  have H := Fr.start o
  refine go_seq fun K1 hK1 => ?_
  refine region_list ?_
  refine list_at 0 ?_; refine q_box 0 2 29 (.tmp 0) (.agg #[va, ea]) [va, ea] [(1, .agg #[vb, eb])] hA H fun b2 a w3 H hA hG hge_b2 => ?_
  clear hge_b2
  refine list_at 1 ?_; refine q_box 1 3 29 (.tmp 1) (.agg #[vb, eb]) [vb, eb] [(2, .pointer (some ⟨b2, 0, none⟩))] hA H fun b4 a w5 H hA hG hge_b4 => ?_
  clear hge_b4
  refine list_at 2 ?_; refine q_alloc 2 4 29 [(.slice none 0 0), (.slice none 0 0)] [(2, .pointer (some ⟨b2, 0, none⟩)), (3, .pointer (some ⟨b4, 0, none⟩))] hA H fun b6 a w7 H hA hG hge_b6 => ?_
  clear hge_b6
  refine list_end ?_
  refine hK1 _ _ ?_
  refine go_seq fun K8 hK8 => ?_
  have H0 := H
  have hM0 := H0.keeps none (.inl rfl)
  refine region_mix (But w7 none) [0, 1, 2, 3, 4, 5, 6, 7, 8, 9, 10] 12 ?_
  replace H := H.drawn; have hD := But.drew w7 none
  generalize ({ w7 with drawn := w7.drawn + 1 } : World) = w9 at H hD ⊢
  refine m_take (n := 4) [0, 1, 2, 3, 5, 6, 7, 8] #[true, true, true, true, false, true, true, true, true, false, false, false] [(6, va), (8, vb), (11, ea), (13, eb)] [(4, .pointer (some ⟨b6, 0, none⟩)), (6, va), (8, vb), (11, ea), (13, eb)] ((0 < Try.prog.cellsOf 27) ∧ (CellOk (But w7 none) b2 (0 + 0) (va)) ∧ (0 < Try.prog.cellsOf 27) ∧ (CellOk (But w7 none) b4 (0 + 0) (vb)) ∧ (0 < Try.prog.cellsOf 27) ∧ (CellOk (But w7 none) b2 (0 + 1) (ea)) ∧ (0 < Try.prog.cellsOf 27) ∧ (CellOk (But w7 none) b4 (0 + 1) (eb)) ∧ True) hA hD ⟨by decide +kernel, by exact box_cellC (box_atC H0 none 2 rfl (fun e => by cases e)) 0, by decide +kernel, by exact box_cellC (box_atC H0 none 1 rfl (fun e => by cases e)) 0, by decide +kernel, by exact box_cellC (box_atC H0 none 2 rfl (fun e => by cases e)) 1, by decide +kernel, by exact box_cellC (box_atC H0 none 1 rfl (fun e => by cases e)) 1, trivial⟩ fun a hA => ?_
  refine m_one 4 ?_; refine q_call 4 9 78 #[.tmp 6, .tmp 8, .const (.int .i64 2)] #[27, 27, 3] [va, vb, .int .i64 2] (fun S v w' => Rd S w' v (mergeL A C 2)) [(4, .pointer (some ⟨b6, 0, none⟩)), (11, ea), (13, eb)] hA H (by exact merge_any va vb A C 2 H.at ((H.arg gA)) ((H.arg gC)) (by omega)) fun v10 a w11 S hR12 H hA hG => ?_
  replace H := H.ro hR12
  replace hD := hD.below hG
  refine ⟨fun _ => hD, ?_⟩
  refine m_one 9 ?_; refine q_call 9 14 78 #[.tmp 11, .tmp 13, .const (.int .i64 2)] #[27, 27, 3] [ea, eb, .int .i64 2] (fun S v w' => Rd S w' v (mergeL B D 2)) [(4, .pointer (some ⟨b6, 0, none⟩)), (9, v10)] hA H (by exact merge_any ea eb B D 2 H.at ((H.arg gB)) ((H.arg gD)) (by omega)) fun v14 a w15 S hR16 H hA hG => ?_
  replace H := H.ro hR16
  replace hD := hD.below hG
  refine ⟨fun _ => hD, ?_⟩
  refine m_take (n := 1) [10] #[true, true, true, true, true, true, true, true, true, true, true, false] [(15, .agg #[v10, v14])] [(4, .pointer (some ⟨b6, 0, none⟩)), (15, .agg #[v10, v14])] ((∀ w, (Instr.build 29 #[(0, v10), (1, v14)]).run Try.prog w = .ok (.agg #[v10, v14]) w) ∧ True) hA hD ⟨fun w => by obtain ⟨_, _, _, e0⟩ := rd_form (H.get 1 rfl); rw [e0]; obtain ⟨_, _, _, e1⟩ := rd_form (H.get 0 rfl); rw [e1]; kernel_rfl, trivial⟩ fun a hA => ?_
  refine m_one 11 ?_; refine q_store 11 29 (.tmp 4) (.tmp 15) 2 b6 (0) 29 [(.slice none 0 0), (.slice none 0 0)] [v10, v14] [v10, v14] (.agg #[v10, v14]) [(4, .pointer (some ⟨b6, 0, none⟩))] hA H rfl rfl (Nat.le_of_ble_eq_true (by kernel_rfl)) rfl (fun v hv => by simp only [List.mem_cons, List.not_mem_nil, or_false] at hv; rcases hv with rfl | rfl; exact (rd_one (H.get 1 rfl)); exact (rd_one (H.get 0 rfl))) fun a w18 H hA hG => ?_
  replace H : Fr _ _ _ [.ro v14 (mergeL B D 2), .ro v10 (mergeL A C 2), .box b6 29 [v10, v14], .box b4 29 [vb, eb], .box b2 29 [va, ea]] := H
  refine ⟨fun h => absurd h (by decide), ?_⟩
  refine m_end ?_
  refine hK8 _ _ ?_
  refine go_ret_ ?_
  refine ret_cell 4 29 2 b6 29 [v10, v14] #[v10, v14] hA H rfl ?_ (ht := ⟨_, Try.underlying29⟩)
  exact ⟨_, rfl, rd_two (H.giveRo 1 rfl) (H.giveRo 0 rfl), H.below⟩

set_option maxRecDepth 100000 in
set_option maxHeartbeats 1000000 in
theorem or_any (va ea vb eb : Value) (A B C D : List Int) (o : Orig) (gA : Rd (· < o.w.heap.size) o.w va A) (gB : Rd (· < o.w.heap.size) o.w ea B) (gC : Rd (· < o.w.heap.size) o.w vb C) (gD : Rd (· < o.w.heap.size) o.w eb D) (hs1 : A.length + C.length ≤ 1000000000) (hs2 : B.length + D.length ≤ 1000000000) :
  Calls Try.prog 40 [.agg #[va, ea], .agg #[vb, eb]].toArray o.w (Giv o (fun S v w' => Rd S w' v ((mergeL A C 1, mergeL B D 1)))) := by
  refine enter Try.f40 16 Try.func40 fun a hA => ?_
  replace hA := env_sub [(0, .agg #[va, ea]), (1, .agg #[vb, eb])] hA
  have H := Fr.start o
  refine go_seq fun K1 hK1 => ?_
  refine region_list ?_
  refine list_at 0 ?_; refine q_box 0 2 29 (.tmp 0) (.agg #[va, ea]) [va, ea] [(1, .agg #[vb, eb])] hA H fun b2 a w3 H hA hG hge_b2 => ?_
  clear hge_b2
  refine list_at 1 ?_; refine q_box 1 3 29 (.tmp 1) (.agg #[vb, eb]) [vb, eb] [(2, .pointer (some ⟨b2, 0, none⟩))] hA H fun b4 a w5 H hA hG hge_b4 => ?_
  clear hge_b4
  refine list_at 2 ?_; refine q_alloc 2 4 29 [(.slice none 0 0), (.slice none 0 0)] [(2, .pointer (some ⟨b2, 0, none⟩)), (3, .pointer (some ⟨b4, 0, none⟩))] hA H fun b6 a w7 H hA hG hge_b6 => ?_
  clear hge_b6
  refine list_end ?_
  refine hK1 _ _ ?_
  refine go_seq fun K8 hK8 => ?_
  have H0 := H
  have hM0 := H0.keeps none (.inl rfl)
  refine region_mix (But w7 none) [0, 1, 2, 3, 4, 5, 6, 7, 8, 9, 10] 12 ?_
  replace H := H.drawn; have hD := But.drew w7 none
  generalize ({ w7 with drawn := w7.drawn + 1 } : World) = w9 at H hD ⊢
  refine m_take (n := 4) [0, 1, 2, 3, 5, 6, 7, 8] #[true, true, true, true, false, true, true, true, true, false, false, false] [(6, va), (8, vb), (11, ea), (13, eb)] [(4, .pointer (some ⟨b6, 0, none⟩)), (6, va), (8, vb), (11, ea), (13, eb)] ((0 < Try.prog.cellsOf 27) ∧ (CellOk (But w7 none) b2 (0 + 0) (va)) ∧ (0 < Try.prog.cellsOf 27) ∧ (CellOk (But w7 none) b4 (0 + 0) (vb)) ∧ (0 < Try.prog.cellsOf 27) ∧ (CellOk (But w7 none) b2 (0 + 1) (ea)) ∧ (0 < Try.prog.cellsOf 27) ∧ (CellOk (But w7 none) b4 (0 + 1) (eb)) ∧ True) hA hD ⟨by decide +kernel, by exact box_cellC (box_atC H0 none 2 rfl (fun e => by cases e)) 0, by decide +kernel, by exact box_cellC (box_atC H0 none 1 rfl (fun e => by cases e)) 0, by decide +kernel, by exact box_cellC (box_atC H0 none 2 rfl (fun e => by cases e)) 1, by decide +kernel, by exact box_cellC (box_atC H0 none 1 rfl (fun e => by cases e)) 1, trivial⟩ fun a hA => ?_
  refine m_one 4 ?_; refine q_call 4 9 78 #[.tmp 6, .tmp 8, .const (.int .i64 1)] #[27, 27, 3] [va, vb, .int .i64 1] (fun S v w' => Rd S w' v (mergeL A C 1)) [(4, .pointer (some ⟨b6, 0, none⟩)), (11, ea), (13, eb)] hA H (by exact merge_any va vb A C 1 H.at ((H.arg gA)) ((H.arg gC)) (by omega)) fun v10 a w11 S hR12 H hA hG => ?_
  replace H := H.ro hR12
  replace hD := hD.below hG
  refine ⟨fun _ => hD, ?_⟩
  refine m_one 9 ?_; refine q_call 9 14 78 #[.tmp 11, .tmp 13, .const (.int .i64 1)] #[27, 27, 3] [ea, eb, .int .i64 1] (fun S v w' => Rd S w' v (mergeL B D 1)) [(4, .pointer (some ⟨b6, 0, none⟩)), (9, v10)] hA H (by exact merge_any ea eb B D 1 H.at ((H.arg gB)) ((H.arg gD)) (by omega)) fun v14 a w15 S hR16 H hA hG => ?_
  replace H := H.ro hR16
  replace hD := hD.below hG
  refine ⟨fun _ => hD, ?_⟩
  refine m_take (n := 1) [10] #[true, true, true, true, true, true, true, true, true, true, true, false] [(15, .agg #[v10, v14])] [(4, .pointer (some ⟨b6, 0, none⟩)), (15, .agg #[v10, v14])] ((∀ w, (Instr.build 29 #[(0, v10), (1, v14)]).run Try.prog w = .ok (.agg #[v10, v14]) w) ∧ True) hA hD ⟨fun w => by obtain ⟨_, _, _, e0⟩ := rd_form (H.get 1 rfl); rw [e0]; obtain ⟨_, _, _, e1⟩ := rd_form (H.get 0 rfl); rw [e1]; kernel_rfl, trivial⟩ fun a hA => ?_
  refine m_one 11 ?_; refine q_store 11 29 (.tmp 4) (.tmp 15) 2 b6 (0) 29 [(.slice none 0 0), (.slice none 0 0)] [v10, v14] [v10, v14] (.agg #[v10, v14]) [(4, .pointer (some ⟨b6, 0, none⟩))] hA H rfl rfl (Nat.le_of_ble_eq_true (by kernel_rfl)) rfl (fun v hv => by simp only [List.mem_cons, List.not_mem_nil, or_false] at hv; rcases hv with rfl | rfl; exact (rd_one (H.get 1 rfl)); exact (rd_one (H.get 0 rfl))) fun a w18 H hA hG => ?_
  replace H : Fr _ _ _ [.ro v14 (mergeL B D 1), .ro v10 (mergeL A C 1), .box b6 29 [v10, v14], .box b4 29 [vb, eb], .box b2 29 [va, ea]] := H
  refine ⟨fun h => absurd h (by decide), ?_⟩
  refine m_end ?_
  refine hK8 _ _ ?_
  refine go_ret_ ?_
  refine ret_cell 4 29 2 b6 29 [v10, v14] #[v10, v14] hA H rfl ?_ (ht := ⟨_, Try.underlying29⟩)
  exact ⟨_, rfl, rd_two (H.giveRo 1 rfl) (H.giveRo 0 rfl), H.below⟩

end Go.Proofs.Ytahonnlgkmimlaa
