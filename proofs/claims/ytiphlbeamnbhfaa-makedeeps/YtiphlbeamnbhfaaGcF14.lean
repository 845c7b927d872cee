/-
Functions of the program as Lean functions, and that the program computes them; printed by gen/main.py.
No conditions.
-/
import Derived.Test.YtiphlbeamnbhfaaGcF13
namespace Go.SX
open Go.Proofs
set_option linter.unusedVariables false
set_option maxRecDepth 100000
set_option maxHeartbeats 2000000
def mm_function.f (n : Nat) (a0 : S_mm) (a1 : Int) (a2 : S_Func) : Option ((List S_Proc) × (List S_Instr) × (List S_mk_loop)) :=
  if (0 : Int) ≤ a1 ∧ a1 < (a0.Info.Slots.length : Int) then (mm_list.f n a0 a2.Body).bind fun v3 => (if (a2.Type_ == 1) = true then (mm_put.f (S_mm.mk a0.Tree a0.Info (S_Code.mk a0.Code.Procs v3.1) v3.2) 2 0).bind fun v7 => (mm_put.f (S_mm.mk a0.Tree a0.Info (S_Code.mk a0.Code.Procs v7.2) v3.2) 27 1).bind fun v9 => some v9.2 else (mm_put.f (S_mm.mk a0.Tree a0.Info (S_Code.mk a0.Code.Procs v3.1) v3.2) 27 0).bind fun v11 => some v11.2 : Option (List S_Instr)).bind fun v5 => if a0.Code.Procs.length + ([S_Proc.mk a2.Name (a0.Code.List_.length : Int) (v5.length : Int) (a2.Params.length : Int) ((a0.Info.Slots.getD a1.toNat []).length : Int) a2.Type_] : List S_Proc).length < 4294967296 then some ((a0.Code.Procs ++ ([S_Proc.mk a2.Name (a0.Code.List_.length : Int) (v5.length : Int) (a2.Params.length : Int) ((a0.Info.Slots.getD a1.toNat []).length : Int) a2.Type_] : List S_Proc)), v5, v3.2) else none else none
theorem mm_function.body : Try.f26.body = some (.seq (.region 0 (rg Try.f26 0) false) (.seq (.region 1 (rg Try.f26 1) true) (.seq (.region 2 (rg Try.f26 2) false) (.seq (.seq (.region 3 (rg Try.f26 3) false) (.cond (.tmp 36) (.seq (.region 4 (rg Try.f26 4) false) (.region 5 (rg Try.f26 5) false)) (.region 6 (rg Try.f26 6) false))) (.seq (.region 7 (rg Try.f26 7) false) (.region 8 (rg Try.f26 8) true)))))) := by kernel_rfl
def mm_function.Ok (n : Nat) : Prop := ∀ (b : Nat) (a0 : S_mm) (a1 : Int) (a2 : S_Func) (y_0 : HdN 11) (y_2 : HdN 2) (r : (List S_Proc) × (List S_Instr) × (List S_mk_loop)), mm_function.f n a0 a1 a2 = some r → Spec Try.prog 26 #[.pointer (some ⟨b, 0, none⟩), .int .i64 a1, k_Func.val a2 y_2] [blk b (.cells (k_mm.enc a0 y_0).toArray 99 (0, 0)), ro k_Expr a0.Tree.Exprs y_0.1, ro k_Stmt a0.Tree.Stmts y_0.2.1, ro k_Func a0.Tree.Funcs y_0.2.2.1, ro k_i64 a0.Info.Type_ y_0.2.2.2.1, ro k_i64 a0.Info.Slot y_0.2.2.2.2.1, ro k_i64 a0.Info.Put y_0.2.2.2.2.2.1, ro k_i64 a0.Info.Func_ y_0.2.2.2.2.2.2.1, ro k_sl_i64 a0.Info.Slots y_0.2.2.2.2.2.2.2.1, own k_Proc 52 a0.Code.Procs y_0.2.2.2.2.2.2.2.2.1, own k_Instr 54 a0.Code.List_ y_0.2.2.2.2.2.2.2.2.2.1, own k_mk_loop 135 a0.loops y_0.2.2.2.2.2.2.2.2.2.2.1, ro k_str a2.Params y_2.1, ro k_i64 a2.Body y_2.2.1] ((HdN 1) × (HdN 1) × (HdN 1)) (fun x => .tuple #[]) (fun x => [blk b (.cells #[slv a0.Tree.Exprs.length y_0.1, slv a0.Tree.Stmts.length y_0.2.1, slv a0.Tree.Funcs.length y_0.2.2.1, slv a0.Info.Type_.length y_0.2.2.2.1, slv a0.Info.Slot.length y_0.2.2.2.2.1, slv a0.Info.Put.length y_0.2.2.2.2.2.1, slv a0.Info.Func_.length y_0.2.2.2.2.2.2.1, slv a0.Info.Slots.length y_0.2.2.2.2.2.2.2.1, slv r.1.length x.1.1, slv r.2.1.length x.2.1.1, slv r.2.2.length x.2.2.1] 99 (0, 0)), own k_Proc 52 r.1 x.1.1, own k_Instr 54 r.2.1 x.2.1.1, own k_mk_loop 135 r.2.2 x.2.2.1])
theorem mm_function.ok (n : Nat) : mm_function.Ok n := by
  intro b a0 a1 a2 y_0 y_2 r h
  rw [mm_function.f.eq_1] at h
  refine spec_gop (X := (HdN 1) × (HdN 1) × (HdN 1)) (val := fun r x => .tuple #[]) (ch := fun r x => [blk b (.cells #[slv a0.Tree.Exprs.length y_0.1, slv a0.Tree.Stmts.length y_0.2.1, slv a0.Tree.Funcs.length y_0.2.2.1, slv a0.Info.Type_.length y_0.2.2.2.1, slv a0.Info.Slot.length y_0.2.2.2.2.1, slv a0.Info.Put.length y_0.2.2.2.2.2.1, slv a0.Info.Func_.length y_0.2.2.2.2.2.2.1, slv a0.Info.Slots.length y_0.2.2.2.2.2.2.2.1, slv r.1.length x.1.1, slv r.2.1.length x.2.1.1, slv r.2.2.length x.2.2.1] 99 (0, 0)), own k_Proc 52 r.1 x.1.1, own k_Instr 54 r.2.1 x.2.1.1, own k_mk_loop 135 r.2.2 x.2.2.1]) 0 b 99 (cvs k_mm a0 y_0) _ [xv 0 0, iv a1, .o (.agg (cvs k_Func a2 y_2))] (by kernel_rfl) mm_function.body h (by kernel_rfl) (fun _ e => by subst e; kernel_rfl) (fun _ => by kernel_rfl) fun D => ?_
  refine sim_go [5, 0, 1] ?_
  refine sim_draw (f1 := [17, 18]) (f0 := [1, 6, 9, 15, 21]) (fp := [0, 2, 3, 4, 5, 7, 8, 10, 11, 12, 13, 14, 16, 19, 20, 22]) (b1 := [24]) (b0 := [24]) (bm := []) (bs := [(5, 50, (cvs k_Func a2 y_2)), (0, 99, (cvs k_mm a0 y_0))]) (Am := []) (As := [ro k_Expr a0.Tree.Exprs y_0.1, ro k_Stmt a0.Tree.Stmts y_0.2.1, ro k_Func a0.Tree.Funcs y_0.2.2.1, ro k_i64 a0.Info.Type_ y_0.2.2.2.1, ro k_i64 a0.Info.Slot y_0.2.2.2.2.1, ro k_i64 a0.Info.Put y_0.2.2.2.2.2.1, ro k_i64 a0.Info.Func_ y_0.2.2.2.2.2.2.1, ro k_sl_i64 a0.Info.Slots y_0.2.2.2.2.2.2.2.1, own k_Proc 52 a0.Code.Procs y_0.2.2.2.2.2.2.2.2.1, own k_Instr 54 a0.Code.List_ y_0.2.2.2.2.2.2.2.2.2.1, own k_mk_loop 135 a0.loops y_0.2.2.2.2.2.2.2.2.2.2.1, ro k_str a2.Params y_2.1, ro k_i64 a2.Body y_2.2.1]) (.lin [0, 1, 2, 3, 4, 5, 6, 7, 8, 9, 10, 11, 12, 13, 14, 15, 16, 17, 18, 19, 20, 21, 22, 23, 24]) (by kernel_rfl) [] (by kernel_rfl) [] (by kernel_rfl) ?_
  refine rund_next ?_
  refine rund_steps (st' := ⟨[(23, iv a1), (22, lv a0.Info.Slots.length y_0.2.2.2.2.2.2.2.1), (17, iv (a2.Params.length : Int)), (14, iv (a0.Code.List_.length : Int)), (8, tv a2.Name), (5, xv 5 0), (0, xv 0 0)], []⟩) 17 [23, 22, 17, 14, 8, 5, 0] (by kernel_rfl) ?_
  refine rund_fl (by kernel_rfl) (g_idxr 7 rfl 24 (by kernel_rfl) (by kernel_rfl)) fun ⟨H1⟩ => ?_
  refine rund_fl (by kernel_rfl) (g_ldr 7 rfl [] H1 25 false 1 0 (by kernel_rfl) (by kernel_rfl)) fun y2 => ?_
  refine rund_As (A' := [ro k_i64 (a0.Info.Slots.getD a1.toNat []) y2.1, ro k_Expr a0.Tree.Exprs y_0.1, ro k_Stmt a0.Tree.Stmts y_0.2.1, ro k_Func a0.Tree.Funcs y_0.2.2.1, ro k_i64 a0.Info.Type_ y_0.2.2.2.1, ro k_i64 a0.Info.Slot y_0.2.2.2.2.1, ro k_i64 a0.Info.Put y_0.2.2.2.2.2.1, ro k_i64 a0.Info.Func_ y_0.2.2.2.2.2.2.1, ro k_sl_i64 a0.Info.Slots y_0.2.2.2.2.2.2.2.1, own k_Proc 52 a0.Code.Procs y_0.2.2.2.2.2.2.2.2.1, own k_Instr 54 a0.Code.List_ y_0.2.2.2.2.2.2.2.2.2.1, own k_mk_loop 135 a0.loops y_0.2.2.2.2.2.2.2.2.2.2.1, ro k_str a2.Params y_2.1, ro k_i64 a2.Body y_2.2.1]) (by kernel_rfl) ?_
  refine rund_steps (st' := ⟨[(29, .o (.agg ([tc a2.Name, ic (a0.Code.List_.length : Int), ic 0, ic (a2.Params.length : Int), ic ((a0.Info.Slots.getD a1.toNat []).length : Int), ic a2.Type_]))), (5, xv 5 0), (0, xv 0 0)], []⟩) 4 [29, 5, 0] (by kernel_rfl) ?_
  refine rund_step (st' := ⟨[(6, xv 6 0), (29, .o (.agg ([tc a2.Name, ic (a0.Code.List_.length : Int), ic 0, ic (a2.Params.length : Int), ic ((a0.Info.Slots.getD a1.toNat []).length : Int), ic a2.Type_]))), (5, xv 5 0), (0, xv 0 0)], [(6, 52, [tc (bs []), ic 0, ic 0, ic 0, ic 0, ic 0])]⟩) (by kernel_rfl) (by kernel_rfl) (by kernel_rfl) ?_
  refine rund_leave (by kernel_rfl) ?_
  refine run_go 1 [6, 5, 0] ?_
  refine run_sim ?_
  refine sim_rg [0, 1, 2, 3] ?_
  refine run_go 3 [32, 30, 6, 5, 0] ?_
  refine run_cpz (fun b v3 h => (mm_list.ok n) b a0 a2.Body y_0 y_2.2 v3 h) 0 (some 33) [(1, true), (2, true), (3, true), (4, true), (5, true), (6, true), (7, true), (8, true), (10, false), (10, false), (11, true)] (fun v3 y4 => .tup []) 99 (fun v3 y4 => [lc a0.Tree.Exprs.length y_0.1, lc a0.Tree.Stmts.length y_0.2.1, lc a0.Tree.Funcs.length y_0.2.2.1, lc a0.Info.Type_.length y_0.2.2.2.1, lc a0.Info.Slot.length y_0.2.2.2.2.1, lc a0.Info.Put.length y_0.2.2.2.2.2.1, lc a0.Info.Func_.length y_0.2.2.2.2.2.2.1, lc a0.Info.Slots.length y_0.2.2.2.2.2.2.2.1, lc a0.Code.Procs.length y_0.2.2.2.2.2.2.2.2.1, lc v3.1.length y4.1.1, lc v3.2.length y4.2.1]) fun v3 y4 => ?_
  refine run_sim ?_
  refine sim_joinN (V := (List S_Instr)) (Y := Hd) (fun v5 y6 => ⟨[(0, xv 0 0), (6, xv 6 0)], [(0, 99, [lc a0.Tree.Exprs.length y_0.1, lc a0.Tree.Stmts.length y_0.2.1, lc a0.Tree.Funcs.length y_0.2.2.1, lc a0.Info.Type_.length y_0.2.2.2.1, lc a0.Info.Slot.length y_0.2.2.2.2.1, lc a0.Info.Put.length y_0.2.2.2.2.2.1, lc a0.Info.Func_.length y_0.2.2.2.2.2.2.1, lc a0.Info.Slots.length y_0.2.2.2.2.2.2.2.1, lc a0.Code.Procs.length y_0.2.2.2.2.2.2.2.2.1, lc v5.length y6, lc v3.2.length y4.2.1]), (6, 52, [tc a2.Name, ic (a0.Code.List_.length : Int), ic 0, ic (a2.Params.length : Int), ic ((a0.Info.Slots.getD a1.toNat []).length : Int), ic a2.Type_])]⟩) (fun v5 y6 => [ro k_Expr a0.Tree.Exprs y_0.1, ro k_Stmt a0.Tree.Stmts y_0.2.1, ro k_Func a0.Tree.Funcs y_0.2.2.1, ro k_i64 a0.Info.Type_ y_0.2.2.2.1, ro k_i64 a0.Info.Slot y_0.2.2.2.2.1, ro k_i64 a0.Info.Put y_0.2.2.2.2.2.1, ro k_i64 a0.Info.Func_ y_0.2.2.2.2.2.2.1, ro k_sl_i64 a0.Info.Slots y_0.2.2.2.2.2.2.2.1, own k_Proc 52 a0.Code.Procs y_0.2.2.2.2.2.2.2.2.1, own k_Instr 54 v5 y6, own k_mk_loop 135 v3.2 y4.2.1]) ?_ fun v5 y6 => ?_
  · refine sim_go [36, 6, 0] ?_
    refine sim_ift ?_ ?_
    · refine sim_rg [0, 1] ?_
      refine run_go 1 [37, 6, 0] ?_
      refine run_cpz (fun b v7 h => (mm_put.ok) b (S_mm.mk a0.Tree a0.Info (S_Code.mk a0.Code.Procs v3.1) v3.2) 2 0 (y_0.1, y_0.2.1, y_0.2.2.1, y_0.2.2.2.1, y_0.2.2.2.2.1, y_0.2.2.2.2.2.1, y_0.2.2.2.2.2.2.1, y_0.2.2.2.2.2.2.2.1, y_0.2.2.2.2.2.2.2.2.1, y4.1.1, y4.2.1, ()) v7 h) 0 (some 38) [(3, true), (4, true), (5, true), (6, true), (7, true), (8, true), (9, true), (10, true), (0, false)] (fun v7 y8 => iv v7.1) 99 (fun v7 y8 => [lc a0.Tree.Exprs.length y_0.1, lc a0.Tree.Stmts.length y_0.2.1, lc a0.Tree.Funcs.length y_0.2.2.1, lc a0.Info.Type_.length y_0.2.2.2.1, lc a0.Info.Slot.length y_0.2.2.2.2.1, lc a0.Info.Put.length y_0.2.2.2.2.2.1, lc a0.Info.Func_.length y_0.2.2.2.2.2.2.1, lc a0.Info.Slots.length y_0.2.2.2.2.2.2.2.1, lc a0.Code.Procs.length y_0.2.2.2.2.2.2.2.2.1, lc v7.2.length y8.1, lc v3.2.length y4.2.1]) fun v7 y8 => ?_
      refine run_sim ?_
      refine sim_re [0, 1] ?_
      refine run_go 1 [39, 6, 0] ?_
      refine run_cpz (fun b v9 h => (mm_put.ok) b (S_mm.mk a0.Tree a0.Info (S_Code.mk a0.Code.Procs v7.2) v3.2) 27 1 (y_0.1, y_0.2.1, y_0.2.2.1, y_0.2.2.2.1, y_0.2.2.2.2.1, y_0.2.2.2.2.2.1, y_0.2.2.2.2.2.2.1, y_0.2.2.2.2.2.2.2.1, y_0.2.2.2.2.2.2.2.2.1, y8.1, y4.2.1, ()) v9 h) 0 (some 40) [(3, true), (4, true), (5, true), (6, true), (7, true), (8, true), (9, true), (10, true), (0, false)] (fun v9 y10 => iv v9.1) 99 (fun v9 y10 => [lc a0.Tree.Exprs.length y_0.1, lc a0.Tree.Stmts.length y_0.2.1, lc a0.Tree.Funcs.length y_0.2.2.1, lc a0.Info.Type_.length y_0.2.2.2.1, lc a0.Info.Slot.length y_0.2.2.2.2.1, lc a0.Info.Put.length y_0.2.2.2.2.2.1, lc a0.Info.Func_.length y_0.2.2.2.2.2.2.1, lc a0.Info.Slots.length y_0.2.2.2.2.2.2.2.1, lc a0.Code.Procs.length y_0.2.2.2.2.2.2.2.2.1, lc v9.2.length y10.1, lc v3.2.length y4.2.1]) fun v9 y10 => ?_
      refine run_nil ?_
      exact at_jz v9.2 y10.1 [0, 6] [0, 6] [(3, true), (4, true), (5, true), (6, true), (7, true), (8, true), (9, true), (10, true), (11, false), (0, false), (0, false)]
    · refine sim_re [0, 1] ?_
      refine run_go 1 [41, 6, 0] ?_
      refine run_cpz (fun b v11 h => (mm_put.ok) b (S_mm.mk a0.Tree a0.Info (S_Code.mk a0.Code.Procs v3.1) v3.2) 27 0 (y_0.1, y_0.2.1, y_0.2.2.1, y_0.2.2.2.1, y_0.2.2.2.2.1, y_0.2.2.2.2.2.1, y_0.2.2.2.2.2.2.1, y_0.2.2.2.2.2.2.2.1, y_0.2.2.2.2.2.2.2.2.1, y4.1.1, y4.2.1, ()) v11 h) 0 (some 42) [(3, true), (4, true), (5, true), (6, true), (7, true), (8, true), (9, true), (10, true), (0, false)] (fun v11 y12 => iv v11.1) 99 (fun v11 y12 => [lc a0.Tree.Exprs.length y_0.1, lc a0.Tree.Stmts.length y_0.2.1, lc a0.Tree.Funcs.length y_0.2.2.1, lc a0.Info.Type_.length y_0.2.2.2.1, lc a0.Info.Slot.length y_0.2.2.2.2.1, lc a0.Info.Put.length y_0.2.2.2.2.2.1, lc a0.Info.Func_.length y_0.2.2.2.2.2.2.1, lc a0.Info.Slots.length y_0.2.2.2.2.2.2.2.1, lc a0.Code.Procs.length y_0.2.2.2.2.2.2.2.2.1, lc v11.2.length y12.1, lc v3.2.length y4.2.1]) fun v11 y12 => ?_
      refine run_nil ?_
      exact at_jz v11.2 y12.1 [0, 6] [0, 6] [(3, true), (4, true), (5, true), (6, true), (7, true), (8, true), (9, true), (10, true), (11, false), (0, false), (0, false)]
  refine sim_go [0, 6] ?_
  refine sim_draw_end (f1 := []) (f0 := [5, 6]) (fp := [0, 1, 2, 3, 4]) (b1 := [7, 8, 9, 10, 11, 12]) (b0 := [8, 9, 10, 11, 12]) (bm := []) (bs := [(0, 99, [lc a0.Tree.Exprs.length y_0.1, lc a0.Tree.Stmts.length y_0.2.1, lc a0.Tree.Funcs.length y_0.2.2.1, lc a0.Info.Type_.length y_0.2.2.2.1, lc a0.Info.Slot.length y_0.2.2.2.2.1, lc a0.Info.Put.length y_0.2.2.2.2.2.1, lc a0.Info.Func_.length y_0.2.2.2.2.2.2.1, lc a0.Info.Slots.length y_0.2.2.2.2.2.2.2.1, lc a0.Code.Procs.length y_0.2.2.2.2.2.2.2.2.1, lc v5.length y6, lc v3.2.length y4.2.1]), (6, 52, [tc a2.Name, ic (a0.Code.List_.length : Int), ic (v5.length : Int), ic (a2.Params.length : Int), ic ((a0.Info.Slots.getD a1.toNat []).length : Int), ic a2.Type_])]) (Am := []) (As := [ro k_Expr a0.Tree.Exprs y_0.1, ro k_Stmt a0.Tree.Stmts y_0.2.1, ro k_Func a0.Tree.Funcs y_0.2.2.1, ro k_i64 a0.Info.Type_ y_0.2.2.2.1, ro k_i64 a0.Info.Slot y_0.2.2.2.2.1, ro k_i64 a0.Info.Put y_0.2.2.2.2.2.1, ro k_i64 a0.Info.Func_ y_0.2.2.2.2.2.2.1, ro k_sl_i64 a0.Info.Slots y_0.2.2.2.2.2.2.2.1, own k_Proc 52 a0.Code.Procs y_0.2.2.2.2.2.2.2.2.1, own k_Instr 54 v5 y6, own k_mk_loop 135 v3.2 y4.2.1]) (.lin [0, 1, 2, 3, 4, 5, 6, 7, 8, 9, 10, 11, 12]) (by kernel_rfl) [] (by kernel_rfl) [] (by kernel_rfl) ?_
  refine rund_next ?_
  refine rund_demote ?_
  refine rund_steps (st' := ⟨[(56, .o (.agg ([tc a2.Name, ic (a0.Code.List_.length : Int), ic (v5.length : Int), ic (a2.Params.length : Int), ic ((a0.Info.Slots.getD a1.toNat []).length : Int), ic a2.Type_]))), (55, lv a0.Code.Procs.length y_0.2.2.2.2.2.2.2.2.1), (50, xv 0 0)], []⟩) 7 [56, 55, 50] (by kernel_rfl) ?_
  refine rund_op (by kernel_rfl) (by kernel_rfl) (g_lit k_Proc [(S_Proc.mk a2.Name (a0.Code.List_.length : Int) (v5.length : Int) (a2.Params.length : Int) ((a0.Info.Slots.getD a1.toNat []).length : Int) a2.Type_, ())] 52 57 (by kernel_rfl) (fun _ => by kernel_rfl) [] (by kernel_rfl)) fun g13 => ?_
  refine rund_A (A' := [own k_Proc 52 ([S_Proc.mk a2.Name (a0.Code.List_.length : Int) (v5.length : Int) (a2.Params.length : Int) ((a0.Info.Slots.getD a1.toNat []).length : Int) a2.Type_] : List S_Proc) (some ⟨g13, 0, none⟩, 1), ro k_Expr a0.Tree.Exprs y_0.1, ro k_Stmt a0.Tree.Stmts y_0.2.1, ro k_Func a0.Tree.Funcs y_0.2.2.1, ro k_i64 a0.Info.Type_ y_0.2.2.2.1, ro k_i64 a0.Info.Slot y_0.2.2.2.2.1, ro k_i64 a0.Info.Put y_0.2.2.2.2.2.1, ro k_i64 a0.Info.Func_ y_0.2.2.2.2.2.2.1, ro k_sl_i64 a0.Info.Slots y_0.2.2.2.2.2.2.2.1, own k_Proc 52 a0.Code.Procs y_0.2.2.2.2.2.2.2.2.1, own k_Instr 54 v5 y6, own k_mk_loop 135 v3.2 y4.2.1]) (by kernel_rfl) ?_
  refine rund_leave (by kernel_rfl) ?_
  refine run_op (g_app (E := 52) (S := 32) (S2 := 32) (c2 := ((some ⟨g13, 0, none⟩, 1) : Hd).2) (κ' := k_Proc) (xs := a0.Code.Procs) (ys := ([S_Proc.mk a2.Name (a0.Code.List_.length : Int) (v5.length : Int) (a2.Params.length : Int) ((a0.Info.Slots.getD a1.toNat []).length : Int) a2.Type_] : List S_Proc)) (hd' := y_0.2.2.2.2.2.2.2.2.1) 9 (by kernel_rfl) 0 false (by kernel_rfl) (src_own k_Proc 52 ([S_Proc.mk a2.Name (a0.Code.List_.length : Int) (v5.length : Int) (a2.Params.length : Int) ((a0.Info.Slots.getD a1.toNat []).length : Int) a2.Type_] : List S_Proc) (some ⟨g13, 0, none⟩, 1)) 58 (by kernel_rfl) (by kernel_rfl)) fun g14 => ?_
  refine run_go 4 [] ?_
  refine run_nil ?_
  exact at_ret ((a0.Code.Procs ++ ([S_Proc.mk a2.Name (a0.Code.List_.length : Int) (v5.length : Int) (a2.Params.length : Int) ((a0.Info.Slots.getD a1.toNat []).length : Int) a2.Type_] : List S_Proc)), v5, v3.2) ((g14, ()), (y6, ()), y4.2) rfl (v := .tup []) (by kernel_rfl) (fun _ => by kernel_rfl) (fun _ hf => pk_outb (k := 0) (hf (0, b) (List.Mem.head _)) (by refine ⟨by kernel_rfl, fun _ => by kernel_rfl⟩) (by kernel_rfl) [(0, false), (8, false), (8, false)] (by kernel_rfl))
def mk_Make.l0 (n : Nat) (a0 : S_Tree) (a1 : S_c6_Info) : Nat → (Int × (List S_Proc) × (List S_Instr) × (List S_mk_loop)) → Option S_mm
  | 0, _ => none
  | k1 + 1, v6 => if (decide (v6.1 < (a0.Funcs.length : Int))) = true then if (0 : Int) ≤ v6.1 ∧ v6.1 < (a0.Funcs.length : Int) then (mm_function.f n (S_mm.mk a0 a1 (S_Code.mk v6.2.1 v6.2.2.1) v6.2.2.2) v6.1 (a0.Funcs.getD v6.1.toNat S_Func.zero)).bind fun v10 => mk_Make.l0 n a0 a1 k1 ((w64 (v6.1 + 1)), v10.1, v10.2.1, v10.2.2) else none else some (S_mm.mk a0 a1 (S_Code.mk v6.2.1 v6.2.2.1) v6.2.2.2)
def mk_Make.f (n : Nat) (a0 : S_Tree) (a1 : S_c6_Info) : Option (S_Code × Int) :=
  (mk_deep.f n a0).bind fun v1 => if v1 = true then some (S_Code.mk ([]) ([]), 4) else ((mk_Make.l0 n a0 a1 n (0, [], [], []) : Option S_mm).bind fun v4 => some v4 : Option S_mm).bind fun v2 => some (v2.Code, 0)
theorem mk_Make.body : Try.f15.body = some (.seq (.region 0 (rg Try.f15 0) false) (.seq (.seq (.region 1 (rg Try.f15 1) false) (.cond (.tmp 10) (.seq (.region 2 (rg Try.f15 2) false) .ret) .skip)) (.seq (.region 3 (rg Try.f15 3) false) (.seq (.seq (.region 4 (rg Try.f15 4) false) (.block 0 (.loop (.seq (.region 5 (rg Try.f15 5) false) (.seq (.cond (.tmp 20) .skip (.exit 0)) (.seq (.block 1 (.seq (.region 6 (rg Try.f15 6) false) (.region 7 (rg Try.f15 7) false))) (.region 8 (rg Try.f15 8) false))))))) (.seq (.region 9 (rg Try.f15 9) false) .ret))))) := by kernel_rfl
def mk_Make.Ok (n : Nat) : Prop := ∀ (a0 : S_Tree) (a1 : S_c6_Info) (y_0 : HdN 3) (y_1 : HdN 5) (r : S_Code × Int), mk_Make.f n a0 a1 = some r → Spec Try.prog 15 #[k_Tree.val a0 y_0, k_c6_Info.val a1 y_1] [ro k_Expr a0.Exprs y_0.1, ro k_Stmt a0.Stmts y_0.2.1, ro k_Func a0.Funcs y_0.2.2.1, ro k_i64 a1.Type_ y_1.1, ro k_i64 a1.Slot y_1.2.1, ro k_i64 a1.Put y_1.2.2.1, ro k_i64 a1.Func_ y_1.2.2.2.1, ro k_sl_i64 a1.Slots y_1.2.2.2.2.1] ((HdN 2)) (fun x => .tuple #[k_Code.val r.1 x, .int .i64 r.2]) (fun x => [ro k_Proc r.1.Procs x.1, ro k_Instr r.1.List_ x.2.1])
theorem mk_Make.ok (n : Nat) : mk_Make.Ok n := by
  intro a0 a1 y_0 y_1 r h
  rw [mk_Make.f.eq_1] at h
  refine spec_go (X := (HdN 2)) (val := fun r x => .tuple #[k_Code.val r.1 x, .int .i64 r.2]) (ch := fun r x => [ro k_Proc r.1.Procs x.1, ro k_Instr r.1.List_ x.2.1]) [.o (.agg (cvs k_Tree a0 y_0)), .o (.agg (cvs k_c6_Info a1 y_1))] (by kernel_rfl) mk_Make.body h (by kernel_rfl) (fun _ => by kernel_rfl) fun D => ?_
  refine sim_go [4, 3, 2] ?_
  refine sim_seq ?_
  refine sim_rg [0, 1] ?_
  refine run_go 1 [9, 4, 3, 2] ?_
  refine run_cz (fun v1 h => (mk_deep.ok n) a0 y_0 v1 h) (some 10) [(0, true), (1, true), (2, true)] (fun v1 _ => ov v1) fun v1 _ => ?_
  refine run_sim ?_
  refine sim_ift ?_ ?_
  · refine sim_go [5, 4] ?_
    refine sim_ent (e_ron k_Proc (none, 0)) ?_
    refine sim_ent (e_ron k_Instr (none, 0)) ?_
    exact sim_ret (S_Code.mk ([]) ([]), 4) ((none, 0), (none, 0), ()) rfl rfl (v := .tup [.agg ([nc, nc]), .s (ic 4)]) (by kernel_rfl) (fun _ => by kernel_rfl) (fun _ _ => pk_out' [(1, true), (0, true)] (by kernel_rfl))
  · refine sim_skip ?_
    refine of_seq ?_
    refine sim_gs (st' := ⟨[(6, xv 15 0), (4, xv 4 0), (2, xv 2 0)], [(15, 99, [lc a0.Exprs.length y_0.1, lc a0.Stmts.length y_0.2.1, lc a0.Funcs.length y_0.2.2.1, lc a1.Type_.length y_1.1, lc a1.Slot.length y_1.2.1, lc a1.Put.length y_1.2.2.1, lc a1.Func_.length y_1.2.2.2.1, lc a1.Slots.length y_1.2.2.2.2.1, nc, nc, nc]), (4, 35, [nc, nc]), (3, 31, (cvs k_c6_Info a1 y_1)), (2, 27, (cvs k_Tree a0 y_0))]⟩) [6, 4, 2] ?_
    refine sim_joinN (V := S_mm) (Y := (HdN 11)) (fun v2 y3 => ⟨[(4, xv 4 0), (6, xv 15 0)], [(4, 35, [nc, nc]), (15, 99, (cvs k_mm v2 y3))]⟩) (fun v2 y3 => [ro k_Expr v2.Tree.Exprs y3.1, ro k_Stmt v2.Tree.Stmts y3.2.1, ro k_Func v2.Tree.Funcs y3.2.2.1, ro k_i64 v2.Info.Type_ y3.2.2.2.1, ro k_i64 v2.Info.Slot y3.2.2.2.2.1, ro k_i64 v2.Info.Put y3.2.2.2.2.2.1, ro k_i64 v2.Info.Func_ y3.2.2.2.2.2.2.1, ro k_sl_i64 v2.Info.Slots y3.2.2.2.2.2.2.2.1, own k_Proc 52 v2.Code.Procs y3.2.2.2.2.2.2.2.2.1, own k_Instr 54 v2.Code.List_ y3.2.2.2.2.2.2.2.2.2.1, own k_mk_loop 135 v2.loops y3.2.2.2.2.2.2.2.2.2.2.1]) ?_ fun v2 y3 => ?_
    · refine sim_gs (st' := ⟨[(19, iv 0), (18, iv (a0.Funcs.length : Int)), (17, lv a0.Funcs.length y_0.2.2.1), (6, xv 15 0), (4, xv 4 0)], [(15, 99, [lc a0.Exprs.length y_0.1, lc a0.Stmts.length y_0.2.1, lc a0.Funcs.length y_0.2.2.1, lc a1.Type_.length y_1.1, lc a1.Slot.length y_1.2.1, lc a1.Put.length y_1.2.2.1, lc a1.Func_.length y_1.2.2.2.1, lc a1.Slots.length y_1.2.2.2.2.1, nc, nc, nc]), (4, 35, [nc, nc]), (3, 31, (cvs k_c6_Info a1 y_1)), (2, 27, (cvs k_Tree a0 y_0))]⟩) [19, 18, 17, 6, 4] ?_
      refine sim_joinTN (V := S_mm) (Y := (HdN 11)) (fun v4 y5 => ⟨[(4, xv 4 0), (6, xv 15 0)], [(4, 35, [nc, nc]), (15, 99, (cvs k_mm v4 y5))]⟩) (fun v4 y5 => [ro k_Expr v4.Tree.Exprs y5.1, ro k_Stmt v4.Tree.Stmts y5.2.1, ro k_Func v4.Tree.Funcs y5.2.2.1, ro k_i64 v4.Info.Type_ y5.2.2.2.1, ro k_i64 v4.Info.Slot y5.2.2.2.2.1, ro k_i64 v4.Info.Put y5.2.2.2.2.2.1, ro k_i64 v4.Info.Func_ y5.2.2.2.2.2.2.1, ro k_sl_i64 v4.Info.Slots y5.2.2.2.2.2.2.2.1, own k_Proc 52 v4.Code.Procs y5.2.2.2.2.2.2.2.2.1, own k_Instr 54 v4.Code.List_ y5.2.2.2.2.2.2.2.2.2.1, own k_mk_loop 135 v4.loops y5.2.2.2.2.2.2.2.2.2.2.1]) ?_ fun v4 y5 => ?_
      · refine sim_block ?_
        refine sim_ent (e_own k_Proc 52) ?_
        refine sim_ent (e_own k_Instr 54) ?_
        refine sim_ent (e_own k_mk_loop 135) ?_
        refine sim_lp (V := Int × (List S_Proc) × (List S_Instr) × (List S_mk_loop)) (Y := Hd × Hd × Hd) (fun k s => mk_Make.l0 n a0 a1 k s) (fun v6 y7 => ⟨[(4, xv 4 0), (6, xv 15 0), (17, lv a0.Funcs.length y_0.2.2.1), (18, iv (a0.Funcs.length : Int)), (19, iv v6.1)], [(4, 35, [nc, nc]), (15, 99, [lc a0.Exprs.length y_0.1, lc a0.Stmts.length y_0.2.1, lc a0.Funcs.length y_0.2.2.1, lc a1.Type_.length y_1.1, lc a1.Slot.length y_1.2.1, lc a1.Put.length y_1.2.2.1, lc a1.Func_.length y_1.2.2.2.1, lc a1.Slots.length y_1.2.2.2.2.1, lc v6.2.1.length y7.1, lc v6.2.2.1.length y7.2.1, lc v6.2.2.2.length y7.2.2])]⟩) (fun v6 y7 => [ro k_Func a0.Funcs y_0.2.2.1, ro k_Expr a0.Exprs y_0.1, ro k_Stmt a0.Stmts y_0.2.1, ro k_i64 a1.Type_ y_1.1, ro k_i64 a1.Slot y_1.2.1, ro k_i64 a1.Put y_1.2.2.1, ro k_i64 a1.Func_ y_1.2.2.2.1, ro k_sl_i64 a1.Slots y_1.2.2.2.2.1, own k_Proc 52 v6.2.1 y7.1, own k_Instr 54 v6.2.2.1 y7.2.1, own k_mk_loop 135 v6.2.2.2 y7.2.2]) n (0, [], [], []) ((none, 0), (none, 0), (none, 0)) [4, 6, 17, 18, 19] [4, 15] [(5, true), (3, true), (4, true), (6, true), (7, true), (8, true), (9, true), (10, true), (2, false), (1, false), (0, false)] (fun k1 hk1 v6 y7 => ?_)
        refine sim_eq (mk_Make.l0.eq_2 _ _ _ _ _) ?_
        refine sim_go [20, 4, 6, 17, 18, 19] ?_
        refine sim_seq ?_
        refine sim_ift ?_ ?_
        · refine sim_skip ?_
          refine of_seq ?_
          refine sim_seq ?_
          refine sim_block ?_
          refine sim_rg [0, 1, 2, 3, 4, 5] ?_
          refine run_go 1 [21, 4, 6, 17, 18, 19] ?_
          refine run_fl (g_idxr 0 rfl 22 (by kernel_rfl) (by kernel_rfl)) fun ⟨H8⟩ => ?_
          refine run_fl (g_ldr 0 rfl S_Func.zero H8 23 true 6 0 (by kernel_rfl) (by kernel_rfl)) fun y9 => ?_
          refine run_go 3 [7, 8, 4, 6, 17, 18, 19] ?_
          refine run_sim ?_
          refine sim_re [0, 1, 2, 3] ?_
          refine run_go 3 [26, 25, 24, 4, 6, 17, 18, 19] ?_
          refine run_cpz (fun b v10 h => (mm_function.ok n) b (S_mm.mk a0 a1 (S_Code.mk v6.2.1 v6.2.2.1) v6.2.2.2) v6.1 (a0.Funcs.getD v6.1.toNat S_Func.zero) (y_0.1, y_0.2.1, y_0.2.2.1, y_1.1, y_1.2.1, y_1.2.2.1, y_1.2.2.2.1, y_1.2.2.2.2.1, y7.1, y7.2.1, y7.2.2, ()) y9 v10 h) 15 (some 27) [(3, true), (4, true), (2, true), (5, true), (6, true), (7, true), (8, true), (9, true), (10, false), (10, false), (10, false), (0, true), (1, true)] (fun v10 y11 => .tup []) 99 (fun v10 y11 => [lc a0.Exprs.length y_0.1, lc a0.Stmts.length y_0.2.1, lc a0.Funcs.length y_0.2.2.1, lc a1.Type_.length y_1.1, lc a1.Slot.length y_1.2.1, lc a1.Put.length y_1.2.2.1, lc a1.Func_.length y_1.2.2.2.1, lc a1.Slots.length y_1.2.2.2.2.1, lc v10.1.length y11.1.1, lc v10.2.1.length y11.2.1.1, lc v10.2.2.length y11.2.2.1]) fun v10 y11 => ?_
          refine run_nil ?_
          refine of_seq ?_
          refine sim_re [0, 1] ?_
          refine run_go 2 [19, 4, 6, 17, 18] ?_
          refine run_nil ?_
          exact at_rz ((w64 (v6.1 + 1)), v10.1, v10.2.1, v10.2.2) (y11.1.1, y11.2.1.1, y11.2.2.1) [4, 6, 17, 18, 19] [4, 15] [(5, true), (6, true), (7, true), (8, true), (9, true), (10, true), (11, true), (12, true), (0, false), (0, false), (0, false)]
        · refine sim_exit rfl ?_
          exact at_jz (S_mm.mk a0 a1 (S_Code.mk v6.2.1 v6.2.2.1) v6.2.2.2) (y_0.1, y_0.2.1, y_0.2.2.1, y_1.1, y_1.2.1, y_1.2.2.1, y_1.2.2.2.1, y_1.2.2.2.2.1, y7.1, y7.2.1, y7.2.2, ()) [4, 6] [4, 15] [(1, true), (2, true), (0, true), (3, true), (4, true), (5, true), (6, true), (7, true), (8, false), (8, false), (8, false)]
      exact at_jz v4 y5 [4, 6] [4, 15] [(0, true), (1, true), (2, true), (3, true), (4, true), (5, true), (6, true), (7, true), (8, false), (8, false), (8, false)]
    refine sim_go [5, 4] ?_
    refine sim_weaken (fun a w => real_freeze (rest := [ro k_Expr v2.Tree.Exprs y3.1, ro k_Stmt v2.Tree.Stmts y3.2.1, ro k_Func v2.Tree.Funcs y3.2.2.1, ro k_i64 v2.Info.Type_ y3.2.2.2.1, ro k_i64 v2.Info.Slot y3.2.2.2.2.1, ro k_i64 v2.Info.Put y3.2.2.2.2.2.1, ro k_i64 v2.Info.Func_ y3.2.2.2.2.2.2.1, ro k_sl_i64 v2.Info.Slots y3.2.2.2.2.2.2.2.1, own k_Instr 54 v2.Code.List_ y3.2.2.2.2.2.2.2.2.2.1, own k_mk_loop 135 v2.loops y3.2.2.2.2.2.2.2.2.2.2.1]) (κ := k_Proc) (E := 52) (xs := v2.Code.Procs) (h := y3.2.2.2.2.2.2.2.2.1) 8 (by kernel_rfl) (pers_of fun _ _ => rfl) a w) ?_
    refine sim_weaken (fun a w => real_freeze (rest := [ro k_Proc v2.Code.Procs y3.2.2.2.2.2.2.2.2.1, ro k_Expr v2.Tree.Exprs y3.1, ro k_Stmt v2.Tree.Stmts y3.2.1, ro k_Func v2.Tree.Funcs y3.2.2.1, ro k_i64 v2.Info.Type_ y3.2.2.2.1, ro k_i64 v2.Info.Slot y3.2.2.2.2.1, ro k_i64 v2.Info.Put y3.2.2.2.2.2.1, ro k_i64 v2.Info.Func_ y3.2.2.2.2.2.2.1, ro k_sl_i64 v2.Info.Slots y3.2.2.2.2.2.2.2.1, own k_mk_loop 135 v2.loops y3.2.2.2.2.2.2.2.2.2.2.1]) (κ := k_Instr) (E := 54) (xs := v2.Code.List_) (h := y3.2.2.2.2.2.2.2.2.2.1) 9 (by kernel_rfl) (pers_of fun _ _ => rfl) a w) ?_
    exact sim_ret (v2.Code, 0) (y3.2.2.2.2.2.2.2.2.1, y3.2.2.2.2.2.2.2.2.2.1, ()) rfl rfl (v := .tup [.agg ([lc v2.Code.Procs.length y3.2.2.2.2.2.2.2.2.1, lc v2.Code.List_.length y3.2.2.2.2.2.2.2.2.2.1]), .s (ic 0)]) (by kernel_rfl) (fun _ => by kernel_rfl) (fun _ _ => pk_out' [(1, true), (0, true)] (by kernel_rfl))
def w11_Made.f (n : Nat) (a0 : ByteArray) : Option (S_Tree × S_c6_Info × S_Code × Bool) :=
  (w7_Right.f n a0).bind fun v1 => if (!v1.2) = true then some (v1.1, S_c6_Info.mk ([]) ([]) ([]) ([]) ([]), S_Code.mk ([]) ([]), false) else (c6_Check.f n v1.1).bind fun v3 => (mk_Make.f n v1.1 v3.1).bind fun v5 => some (v1.1, v3.1, v5.1, (v5.2 == 0))
theorem w11_Made.body : Try.f7.body = some (.seq (.region 0 (rg Try.f7 0) false) (.seq (.region 1 (rg Try.f7 1) false) (.seq (.seq (.region 2 (rg Try.f7 2) false) (.cond (.tmp 19) (.seq (.region 3 (rg Try.f7 3) false) .ret) .skip)) (.seq (.region 4 (rg Try.f7 4) false) (.seq (.region 5 (rg Try.f7 5) false) (.seq (.region 6 (rg Try.f7 6) true) .ret)))))) := by kernel_rfl
def w11_Made.Ok (n : Nat) : Prop := ∀ (a0 : ByteArray) (r : S_Tree × S_c6_Info × S_Code × Bool), w11_Made.f n a0 = some r → Spec Try.prog 7 #[.string a0] [] ((HdN 3) × (HdN 5) × (HdN 2)) (fun x => .tuple #[k_Tree.val r.1 x.1, k_c6_Info.val r.2.1 x.2.1, k_Code.val r.2.2.1 x.2.2, .bool r.2.2.2]) (fun x => [ro k_Expr r.1.Exprs x.1.1, ro k_Stmt r.1.Stmts x.1.2.1, ro k_Func r.1.Funcs x.1.2.2.1, ro k_i64 r.2.1.Type_ x.2.1.1, ro k_i64 r.2.1.Slot x.2.1.2.1, ro k_i64 r.2.1.Put x.2.1.2.2.1, ro k_i64 r.2.1.Func_ x.2.1.2.2.2.1, ro k_sl_i64 r.2.1.Slots x.2.1.2.2.2.2.1, ro k_Proc r.2.2.1.Procs x.2.2.1, ro k_Instr r.2.2.1.List_ x.2.2.2.1])
theorem w11_Made.ok (n : Nat) : w11_Made.Ok n := by
  intro a0 r h
  rw [w11_Made.f.eq_1] at h
  refine spec_go (X := (HdN 3) × (HdN 5) × (HdN 2)) (val := fun r x => .tuple #[k_Tree.val r.1 x.1, k_c6_Info.val r.2.1 x.2.1, k_Code.val r.2.2.1 x.2.2, .bool r.2.2.2]) (ch := fun r x => [ro k_Expr r.1.Exprs x.1.1, ro k_Stmt r.1.Stmts x.1.2.1, ro k_Func r.1.Funcs x.1.2.2.1, ro k_i64 r.2.1.Type_ x.2.1.1, ro k_i64 r.2.1.Slot x.2.1.2.1, ro k_i64 r.2.1.Put x.2.1.2.2.1, ro k_i64 r.2.1.Func_ x.2.1.2.2.2.1, ro k_sl_i64 r.2.1.Slots x.2.1.2.2.2.2.1, ro k_Proc r.2.2.1.Procs x.2.2.1, ro k_Instr r.2.2.1.List_ x.2.2.2.1]) [tv a0] (by kernel_rfl) w11_Made.body h (by kernel_rfl) (fun _ => by kernel_rfl) fun D => ?_
  refine sim_go [4, 3, 2, 0] ?_
  refine sim_rg [0, 1, 2, 3, 4, 5, 6, 7] ?_
  refine run_go 1 [14, 4, 3, 2] ?_
  refine run_cz (fun v1 h => (w7_Right.ok n) a0 v1 h) (some 15) [] (fun v1 y2 => .tup [.agg (cvs k_Tree v1.1 y2), .s (oc v1.2)]) fun v1 y2 => ?_
  refine run_go 6 [7, 6, 4, 3, 2] ?_
  refine run_sim ?_
  refine sim_seq ?_
  refine sim_go [19, 6, 4, 3, 2] ?_
  refine sim_ift ?_ ?_
  · refine sim_go [5, 4, 3, 2] ?_
    refine sim_ent (e_ron k_i64 (none, 0)) ?_
    refine sim_ent (e_ron k_i64 (none, 0)) ?_
    refine sim_ent (e_ron k_i64 (none, 0)) ?_
    refine sim_ent (e_ron k_i64 (none, 0)) ?_
    refine sim_ent (e_ron k_sl_i64 (none, 0)) ?_
    refine sim_ent (e_ron k_Proc (none, 0)) ?_
    refine sim_ent (e_ron k_Instr (none, 0)) ?_
    exact sim_ret (v1.1, S_c6_Info.mk ([]) ([]) ([]) ([]) ([]), S_Code.mk ([]) ([]), false) (y2, ((none, 0), (none, 0), (none, 0), (none, 0), (none, 0), ()), ((none, 0), (none, 0), ())) rfl rfl (v := .tup [.agg (cvs k_Tree v1.1 y2), .agg ([nc, nc, nc, nc, nc]), .agg ([nc, nc]), .s (oc false)]) (by kernel_rfl) (fun _ => by kernel_rfl) (fun _ _ => pk_out' [(7, true), (8, true), (9, true), (6, true), (5, true), (4, true), (3, true), (2, true), (1, true), (0, true)] (by kernel_rfl))
  · refine sim_skip ?_
    refine of_seq ?_
    refine sim_rg [0, 1, 2, 3, 4, 5, 6, 7, 8, 9] ?_
    refine run_go 1 [24, 6, 4, 3, 2] ?_
    refine run_cz (fun v3 h => (c6_Check.ok n) v1.1 y2 v3 h) (some 25) [(0, true), (1, true), (2, true)] (fun v3 y4 => .tup [.agg (cvs k_c6_Info v3.1 y4), .s (ic v3.2.1), .s (ic v3.2.2)]) fun v3 y4 => ?_
    refine run_go 8 [8, 6, 4, 3, 2] ?_
    refine run_sim ?_
    refine sim_rg [0, 1, 2, 3, 4, 5, 6, 7, 8] ?_
    refine run_go 2 [31, 30, 8, 6, 4, 3, 2] ?_
    refine run_cz (fun v5 h => (mk_Make.ok n) v1.1 v3.1 y2 y4 v5 h) (some 32) [(5, true), (6, true), (7, true), (0, true), (1, true), (2, true), (3, true), (4, true)] (fun v5 y6 => .tup [.agg (cvs k_Code v5.1 y6), .s (ic v5.2)]) fun v5 y6 => ?_
    refine run_go 6 [12, 11, 8, 6, 4, 3, 2] ?_
    refine run_sim ?_
    refine sim_draw (f1 := []) (f0 := [0, 1, 2]) (fp := [3, 4]) (b1 := [5, 6, 7, 8]) (b0 := [7, 8]) (bm := [(2, 27, [nc, nc, nc]), (3, 31, [nc, nc, nc, nc, nc])]) (bs := [(11, 35, (cvs k_Code v5.1 y6)), (8, 64, (cvs k_c6_Info v3.1 y4)), (6, 27, (cvs k_Tree v1.1 y2)), (4, 35, [nc, nc])]) (Am := []) (As := [ro k_Proc v5.1.Procs y6.1, ro k_Instr v5.1.List_ y6.2.1, ro k_i64 v3.1.Type_ y4.1, ro k_i64 v3.1.Slot y4.2.1, ro k_i64 v3.1.Put y4.2.2.1, ro k_i64 v3.1.Func_ y4.2.2.2.1, ro k_sl_i64 v3.1.Slots y4.2.2.2.2.1, ro k_Expr v1.1.Exprs y2.1, ro k_Stmt v1.1.Stmts y2.2.1, ro k_Func v1.1.Funcs y2.2.2.1]) (.lin [0, 1, 2, 3, 4, 5, 6, 7, 8]) (by kernel_rfl) [2, 3] (by kernel_rfl) [] (by kernel_rfl) ?_
    refine rund_next ?_
    refine rund_demote ?_
    refine rund_steps (st' := ⟨[(39, ov (v5.2 == 0)), (37, .o (.agg (cvs k_Code v5.1 y6))), (36, .o (.agg (cvs k_c6_Info v3.1 y4))), (35, .o (.agg (cvs k_Tree v1.1 y2))), (4, xv 4 0), (3, xv 3 0), (2, xv 2 0)], [(2, 27, [nc, nc, nc]), (3, 31, [nc, nc, nc, nc, nc])]⟩) 5 [39, 37, 36, 35, 4, 3, 2] (by kernel_rfl) ?_
    refine rund_step (st' := ⟨[(39, ov (v5.2 == 0)), (37, .o (.agg (cvs k_Code v5.1 y6))), (36, .o (.agg (cvs k_c6_Info v3.1 y4))), (35, .o (.agg (cvs k_Tree v1.1 y2))), (4, xv 4 0), (3, xv 3 0), (2, xv 2 0)], [(2, 27, (cvs k_Tree v1.1 y2)), (3, 31, [nc, nc, nc, nc, nc])]⟩) (by kernel_rfl) (by kernel_rfl) (by kernel_rfl) ?_
    refine rund_step (st' := ⟨[(39, ov (v5.2 == 0)), (37, .o (.agg (cvs k_Code v5.1 y6))), (36, .o (.agg (cvs k_c6_Info v3.1 y4))), (35, .o (.agg (cvs k_Tree v1.1 y2))), (4, xv 4 0), (3, xv 3 0), (2, xv 2 0)], [(2, 27, (cvs k_Tree v1.1 y2)), (3, 31, (cvs k_c6_Info v3.1 y4))]⟩) (by kernel_rfl) (by kernel_rfl) (by kernel_rfl) ?_
    refine rund_leave (by kernel_rfl) ?_
    refine run_go 2 [5, 4, 3, 2] ?_
    refine run_sim ?_
    exact sim_ret (v1.1, v3.1, v5.1, (v5.2 == 0)) (y2, y4, y6) rfl rfl (v := .tup [.agg (cvs k_Tree v1.1 y2), .agg (cvs k_c6_Info v3.1 y4), .agg (cvs k_Code v5.1 y6), .s (oc (v5.2 == 0))]) (by kernel_rfl) (fun _ => by kernel_rfl) (fun _ _ => pk_out' [(7, true), (8, true), (9, true), (2, true), (3, true), (4, true), (5, true), (6, true), (0, true), (1, true)] (by kernel_rfl))
def w11_awake.f (n : Nat) : Option Bool :=
  (w11_Made.f n (bs [102, 117, 110, 99, 32, 109, 97, 105, 110, 40, 41, 32, 123, 32, 125])).bind fun v1 => (if v1.2.2.2 = true then some ((v1.2.2.1.List_.length : Int) == 1) else some false : Option Bool).bind fun v3 => (if v3 = true then if (0 : Int) ≤ 0 ∧ 0 < (v1.2.2.1.List_.length : Int) then some (((v1.2.2.1.List_.getD (0 : Int).toNat S_Instr.zero).Op) == 27) else none else some false : Option Bool).bind fun v5 => (if v5 = true then some ((v1.2.2.1.Procs.length : Int) == 1) else some false : Option Bool).bind fun v8 => some v8
theorem w11_awake.body : Try.f6.body = some (.seq (.region 0 (rg Try.f6 0) false) (.seq (.region 1 (rg Try.f6 1) false) (.seq (.region 2 (rg Try.f6 2) false) .ret))) := by kernel_rfl
def w11_awake.Ok (n : Nat) : Prop := ∀ (r : Bool), w11_awake.f n  = some r → Spec Try.prog 6 #[] [] (Unit) (fun _ => .bool r) (fun _ => [])
theorem w11_awake.ok (n : Nat) : w11_awake.Ok n := by
  intro r h
  rw [w11_awake.f.eq_1] at h
  refine spec_go (X := Unit) (val := fun r _ => .bool r) (ch := fun r _ => []) [] (by kernel_rfl) w11_awake.body h (by kernel_rfl) (fun _ => by kernel_rfl) fun D => ?_
  refine sim_go [] ?_
  refine sim_rg [0, 1, 2, 3, 4, 5, 6, 7, 8, 9, 10, 11, 12] ?_
  refine run_cz (fun v1 h => (w11_Made.ok n) (bs [102, 117, 110, 99, 32, 109, 97, 105, 110, 40, 41, 32, 123, 32, 125]) v1 h) (some 6) [] (fun v1 y2 => .tup [.agg (cvs k_Tree v1.1 y2.1), .agg (cvs k_c6_Info v1.2.1 y2.2.1), .agg (cvs k_Code v1.2.2.1 y2.2.2), .s (oc v1.2.2.2)]) fun v1 y2 => ?_
  refine run_go 12 [4, 3] ?_
  refine run_sim ?_
  refine sim_rg [0, 1, 2, 3, 4, 5, 6, 7, 8, 9, 10, 11, 12, 13, 14, 15, 16, 17, 18, 19, 20, 21] ?_
  refine run_sz (st' := ⟨[(12, ov v1.2.2.2), (3, xv 3 0)], [(3, 35, (cvs k_Code v1.2.2.1 y2.2.2)), (2, 31, (cvs k_c6_Info v1.2.1 y2.2.1)), (1, 27, (cvs k_Tree v1.1 y2.1))]⟩) 2 [12, 3] ?_
  refine run_joinN (V := Bool) (Y := Unit) [2, 3, 4, 5, 6] [7, 8, 9, 10, 11, 12, 13, 14, 15, 16, 17, 18, 19, 20, 21] rfl (fun v3 y4 => ⟨[(3, xv 3 0), (17, ov v3)], [(3, 35, (cvs k_Code v1.2.2.1 y2.2.2))]⟩) (fun v3 y4 => [ro k_Proc v1.2.2.1.Procs y2.2.2.1, ro k_Instr v1.2.2.1.List_ y2.2.2.2.1]) (run_split (fun b => ⟨[(12, ov b), (3, xv 3 0)], [(3, 35, (cvs k_Code v1.2.2.1 y2.2.2)), (2, 31, (cvs k_c6_Info v1.2.1 y2.2.1)), (1, 27, (cvs k_Tree v1.1 y2.1))]⟩) (fun _ => ?_) (fun _ => ?_)) fun v3 y4 => ?_
  · refine run_go 5 [17, 3] ?_
    exact run_az ((v1.2.2.1.List_.length : Int) == 1) () [3, 17] [3] [(8, true), (9, true)]
  · refine run_go 5 [17, 3] ?_
    exact run_az false () [3, 17] [3] [(8, true), (9, true)]
  refine run_sz (st' := ⟨[(18, ov v3), (3, xv 3 0)], [(3, 35, (cvs k_Code v1.2.2.1 y2.2.2))]⟩) 1 [18, 3] ?_
  refine run_joinN (V := Bool) (Y := Unit) [8, 9, 10, 11, 12, 13, 14] [15, 16, 17, 18, 19, 20, 21] rfl (fun v5 y6 => ⟨[(3, xv 3 0), (25, ov v5)], [(3, 35, (cvs k_Code v1.2.2.1 y2.2.2))]⟩) (fun v5 y6 => [ro k_Proc v1.2.2.1.Procs y2.2.2.1, ro k_Instr v1.2.2.1.List_ y2.2.2.2.1]) (run_split (fun b => ⟨[(18, ov b), (3, xv 3 0)], [(3, 35, (cvs k_Code v1.2.2.1 y2.2.2))]⟩) (fun _ => ?_) (fun _ => ?_)) fun v5 y6 => ?_
  · refine run_go 2 [20, 18, 3] ?_
    refine run_fl (g_idxr 1 rfl 21 (by kernel_rfl) (by kernel_rfl)) fun ⟨H7⟩ => ?_
    refine run_go 1 [22, 18, 3] ?_
    refine run_fl (g_ldr 1 rfl S_Instr.zero H7 23 false 1 0 (by kernel_rfl) (by kernel_rfl)) fun _ => ?_
    refine run_go 2 [25, 3] ?_
    exact run_az (((v1.2.2.1.List_.getD (0 : Int).toNat S_Instr.zero).Op) == 27) () [3, 25] [3] [(0, true), (1, true)]
  · refine run_go 7 [25, 3] ?_
    exact run_az false () [3, 25] [3] [(0, true), (1, true)]
  refine run_sz (st' := ⟨[(26, ov v5), (3, xv 3 0)], [(3, 35, (cvs k_Code v1.2.2.1 y2.2.2))]⟩) 1 [26, 3] ?_
  refine run_joinN (V := Bool) (Y := Unit) [16, 17, 18, 19, 20] [21] rfl (fun v8 y9 => ⟨[(31, ov v8)], []⟩) (fun v8 y9 => []) (run_split (fun b => ⟨[(26, ov b), (3, xv 3 0)], [(3, 35, (cvs k_Code v1.2.2.1 y2.2.2))]⟩) (fun _ => ?_) (fun _ => ?_)) fun v8 y9 => ?_
  · refine run_go 5 [31] ?_
    exact run_az ((v1.2.2.1.Procs.length : Int) == 1) () [31] [] []
  · refine run_go 5 [31] ?_
    exact run_az false () [31] [] []
  refine run_go 1 [0] ?_
  refine run_sim ?_
  exact sim_ret v8 () rfl rfl (v := ov v8) (by kernel_rfl) (fun _ => by kernel_rfl) (fun _ _ => pk_out' [] (by kernel_rfl))
def w11_MakeDeeps.l3 (a0 : Int) : Nat → (ByteArray × Int) → Option ByteArray
  | 0, _ => none
  | k1 + 1, v24 => if (decide (v24.2 < (w64 (1 + (w64 ((Int.tmod a0 60))))))) = true then ((if (decide (v24.2 > 0)) = true then if Nat.ble (v24.1.size + (bs [44, 32]).size) 9223372036854775807 = true then some (v24.1 ++ (bs [44, 32])) else none else some v24.1 : Option ByteArray).bind fun v28 => if Nat.ble ((bs [112]).size + (b2s ([(IntKind.u8.wrap ((w64 (97 + (w64 (Int.tdiv v24.2 26)))))), (IntKind.u8.wrap ((w64 (97 + (Int.tmod v24.2 26)))))] : List Int)).size) 9223372036854775807 = true then if Nat.ble (v28.size + ((bs [112]) ++ (b2s ([(IntKind.u8.wrap ((w64 (97 + (w64 (Int.tdiv v24.2 26)))))), (IntKind.u8.wrap ((w64 (97 + (Int.tmod v24.2 26)))))] : List Int))).size) 9223372036854775807 = true then some (v28 ++ ((bs [112]) ++ (b2s ([(IntKind.u8.wrap ((w64 (97 + (w64 (Int.tdiv v24.2 26)))))), (IntKind.u8.wrap ((w64 (97 + (Int.tmod v24.2 26)))))] : List Int)))) else none else none : Option ByteArray).bind fun v26 => w11_MakeDeeps.l3 a0 k1 (v26, (w64 (v24.2 + 1))) else some v24.1
def w11_MakeDeeps.l2 (a1 : Int) : Nat → (ByteArray × Int) → Option ByteArray
  | 0, _ => none
  | k1 + 1, v18 => if (decide (v18.2 < (w64 ((Int.tmod a1 8))))) = true then if Nat.ble (v18.1.size + (bs [41]).size) 9223372036854775807 = true then w11_MakeDeeps.l2 a1 k1 ((v18.1 ++ (bs [41])), (w64 (v18.2 + 1))) else none else some v18.1
def w11_MakeDeeps.l1 (a0 : Int) : Nat → (ByteArray × Int) → Option ByteArray
  | 0, _ => none
  | k2 + 1, v12 => if (decide (v12.2 < (w64 ((w64 (1 + (w64 ((Int.tmod a0 60))))) - 1)))) = true then if Nat.ble (v12.1.size + (bs [49, 44, 32]).size) 9223372036854775807 = true then w11_MakeDeeps.l1 a0 k2 ((v12.1 ++ (bs [49, 44, 32])), (w64 (v12.2 + 1))) else none else some v12.1
def w11_MakeDeeps.l0 (n : Nat) (a0 : Int) (a1 : Int) : Nat → (ByteArray × Int) → Option ByteArray
  | 0, _ => none
  | k1 + 1, v6 => if (decide (v6.2 < (w64 ((Int.tmod a1 8))))) = true then (if Nat.ble (v6.1.size + (bs [102, 40]).size) 9223372036854775807 = true then (w11_MakeDeeps.l1 a0 n ((v6.1 ++ (bs [102, 40])), 0) : Option ByteArray).bind fun v10 => some v10 else none : Option ByteArray).bind fun v8 => w11_MakeDeeps.l0 n a0 a1 k1 (v8, (w64 (v6.2 + 1))) else some v6.1
def w11_MakeDeeps.f (n : Nat) (a0 : Int) (a1 : Int) : Option Bool :=
  (w11_awake.f n).bind fun v1 => if (!v1) = true then some false else ((w11_MakeDeeps.l0 n a0 a1 n ((bs [102, 117, 110, 99, 32, 109, 97, 105, 110, 40, 41, 32, 123, 32, 112, 114, 105, 110, 116, 32]), 0) : Option ByteArray).bind fun v4 => some v4 : Option ByteArray).bind fun v2 => if Nat.ble (v2.size + (bs [50]).size) 9223372036854775807 = true then ((w11_MakeDeeps.l2 a1 n ((v2 ++ (bs [50])), 0) : Option ByteArray).bind fun v16 => some v16 : Option ByteArray).bind fun v14 => if Nat.ble (v14.size + (bs [59, 32, 125, 10, 102, 117, 110, 99, 32, 102, 40]).size) 9223372036854775807 = true then ((w11_MakeDeeps.l3 a0 n ((v14 ++ (bs [59, 32, 125, 10, 102, 117, 110, 99, 32, 102, 40])), 0) : Option ByteArray).bind fun v22 => some v22 : Option ByteArray).bind fun v20 => if Nat.ble (v20.size + (bs [41, 32, 105, 110, 116, 32, 123, 32, 125]).size) 9223372036854775807 = true then (p4_Parse.f n (v20 ++ (bs [41, 32, 105, 110, 116, 32, 123, 32, 125]))).bind fun v31 => if (v31.2.2 != 0) = true then some false else (c6_Check.f n v31.1).bind fun v33 => (mk_Make.f n v31.1 v33.1).bind fun v35 => (if (v33.2.2 == 0) = true then some ((v35.2 == 0) == (decide ((w64 (1 + (w64 ((w64 ((Int.tmod a1 8))) * (w64 ((w64 (1 + (w64 ((Int.tmod a0 60))))) - 1)))))) ≤ 200))) else some false : Option Bool).bind fun v37 => (if v37 = true then (if (v35.2 == 0) = true then some true else some (v35.2 == 4) : Option Bool).bind fun v41 => some v41 else some false : Option Bool).bind fun v39 => some v39 else none else none else none
theorem w11_MakeDeeps.body : Try.f5.body = some (.seq (.region 0 (rg Try.f5 0) false) (.seq (.seq (.region 1 (rg Try.f5 1) false) (.cond (.tmp 18) (.seq (.region 2 (rg Try.f5 2) false) .ret) .skip)) (.seq (.region 3 (rg Try.f5 3) false) (.seq (.region 4 (rg Try.f5 4) false) (.seq (.seq (.region 5 (rg Try.f5 5) false) (.block 0 (.loop (.seq (.region 6 (rg Try.f5 6) false) (.seq (.cond (.tmp 28) .skip (.exit 0)) (.seq (.block 1 (.seq (.region 7 (rg Try.f5 7) false) (.seq (.region 8 (rg Try.f5 8) false) (.block 2 (.loop (.seq (.region 9 (rg Try.f5 9) false) (.seq (.cond (.tmp 34) .skip (.exit 2)) (.seq (.block 3 (.region 10 (rg Try.f5 10) false)) (.region 11 (rg Try.f5 11) false))))))))) (.region 12 (rg Try.f5 12) false))))))) (.seq (.region 13 (rg Try.f5 13) false) (.seq (.seq (.region 14 (rg Try.f5 14) false) (.block 4 (.loop (.seq (.region 15 (rg Try.f5 15) false) (.seq (.cond (.tmp 43) .skip (.exit 4)) (.seq (.block 5 (.region 16 (rg Try.f5 16) false)) (.region 17 (rg Try.f5 17) false))))))) (.seq (.region 18 (rg Try.f5 18) false) (.seq (.seq (.region 19 (rg Try.f5 19) false) (.block 6 (.loop (.seq (.region 20 (rg Try.f5 20) false) (.seq (.cond (.tmp 51) .skip (.exit 6)) (.seq (.block 7 (.seq (.region 21 (rg Try.f5 21) false) (.seq (.seq (.region 22 (rg Try.f5 22) false) (.cond (.tmp 54) (.region 23 (rg Try.f5 23) false) .skip)) (.region 24 (rg Try.f5 24) false)))) (.region 25 (rg Try.f5 25) false))))))) (.seq (.region 26 (rg Try.f5 26) false) (.seq (.seq (.region 27 (rg Try.f5 27) false) (.cond (.tmp 79) (.seq (.region 28 (rg Try.f5 28) false) .ret) .skip)) (.seq (.region 29 (rg Try.f5 29) false) (.seq (.region 30 (rg Try.f5 30) false) (.seq (.region 31 (rg Try.f5 31) false) .ret)))))))))))))) := by kernel_rfl
def w11_MakeDeeps.Ok (n : Nat) : Prop := ∀ (a0 : Int) (a1 : Int) (r : Bool), w11_MakeDeeps.f n a0 a1 = some r → Spec Try.prog 5 #[.int .u8 a0, .int .u8 a1] [] (Unit) (fun _ => .bool r) (fun _ => [])
theorem w11_MakeDeeps.ok (n : Nat) : w11_MakeDeeps.Ok n := by
  intro a0 a1 r h
  rw [w11_MakeDeeps.f.eq_1] at h
  refine spec_go (X := Unit) (val := fun r _ => .bool r) (ch := fun r _ => []) [bv a0, bv a1] (by kernel_rfl) w11_MakeDeeps.body h (by kernel_rfl) (fun _ => by kernel_rfl) fun D => ?_
  refine sim_go [0, 1] ?_
  refine sim_seq ?_
  refine sim_rg [0, 1] ?_
  refine run_cz (fun v1 h => (w11_awake.ok n)  v1 h) (some 17) [] (fun v1 _ => ov v1) fun v1 _ => ?_
  refine run_go 1 [18, 0, 1] ?_
  refine run_sim ?_
  refine sim_ift ?_ ?_
  · refine sim_go [4] ?_
    exact sim_ret false () rfl rfl (v := ov false) (by kernel_rfl) (fun _ => by kernel_rfl) (fun _ _ => pk_out' [] (by kernel_rfl))
  · refine sim_skip ?_
    refine of_seq ?_
    refine sim_go [6, 5] ?_
    refine sim_gs (st' := ⟨[(7, tv (bs [102, 117, 110, 99, 32, 109, 97, 105, 110, 40, 41, 32, 123, 32, 112, 114, 105, 110, 116, 32])), (6, iv (w64 ((Int.tmod a1 8)))), (5, iv (w64 (1 + (w64 ((Int.tmod a0 60))))))], []⟩) [7, 6, 5] ?_
    refine sim_joinN (V := ByteArray) (Y := Unit) (fun v2 y3 => ⟨[(5, iv (w64 (1 + (w64 ((Int.tmod a0 60)))))), (6, iv (w64 ((Int.tmod a1 8)))), (7, tv v2)], []⟩) (fun v2 y3 => []) ?_ fun v2 y3 => ?_
    · refine sim_gs (st' := ⟨[(27, iv 0), (26, iv (w64 ((Int.tmod a1 8)))), (7, tv (bs [102, 117, 110, 99, 32, 109, 97, 105, 110, 40, 41, 32, 123, 32, 112, 114, 105, 110, 116, 32])), (6, iv (w64 ((Int.tmod a1 8)))), (5, iv (w64 (1 + (w64 ((Int.tmod a0 60))))))], []⟩) [27, 26, 7, 6, 5] ?_
      refine sim_joinTN (V := ByteArray) (Y := Unit) (fun v4 y5 => ⟨[(5, iv (w64 (1 + (w64 ((Int.tmod a0 60)))))), (6, iv (w64 ((Int.tmod a1 8)))), (7, tv v4)], []⟩) (fun v4 y5 => []) ?_ fun v4 y5 => ?_
      · refine sim_block ?_
        refine sim_lp (V := ByteArray × Int) (Y := Unit) (fun k s => w11_MakeDeeps.l0 n a0 a1 k s) (fun v6 y7 => ⟨[(5, iv (w64 (1 + (w64 ((Int.tmod a0 60)))))), (6, iv (w64 ((Int.tmod a1 8)))), (7, tv v6.1), (26, iv (w64 ((Int.tmod a1 8)))), (27, iv v6.2)], []⟩) (fun v6 y7 => []) n ((bs [102, 117, 110, 99, 32, 109, 97, 105, 110, 40, 41, 32, 123, 32, 112, 114, 105, 110, 116, 32]), 0) () [5, 6, 7, 26, 27] [] [] (fun k1 hk1 v6 y7 => ?_)
        refine sim_eq (w11_MakeDeeps.l0.eq_2 _ _ _ _ _) ?_
        refine sim_go [28, 5, 6, 7, 26, 27] ?_
        refine sim_seq ?_
        refine sim_ift ?_ ?_
        · refine sim_skip ?_
          refine of_seq ?_
          refine sim_joinN (V := ByteArray) (Y := Unit) (fun v8 y9 => ⟨[(5, iv (w64 (1 + (w64 ((Int.tmod a0 60)))))), (6, iv (w64 ((Int.tmod a1 8)))), (7, tv v8), (26, iv (w64 ((Int.tmod a1 8)))), (27, iv v6.2)], []⟩) (fun v8 y9 => []) ?_ fun v8 y9 => ?_
          · refine sim_block ?_
            refine sim_rg [0, 1, 2] ?_
            refine run_go 1 [29, 5, 6, 26, 27] ?_
            refine run_fl (g_sadd 30 (by kernel_rfl) (by kernel_rfl)) fun _ => ?_
            refine run_go 1 [7, 5, 6, 26, 27] ?_
            refine run_sim ?_
            refine sim_gs (st' := ⟨[(33, iv 0), (32, iv (w64 ((w64 (1 + (w64 ((Int.tmod a0 60))))) - 1))), (7, tv (v6.1 ++ (bs [102, 40]))), (5, iv (w64 (1 + (w64 ((Int.tmod a0 60)))))), (6, iv (w64 ((Int.tmod a1 8)))), (26, iv (w64 ((Int.tmod a1 8)))), (27, iv v6.2)], []⟩) [33, 32, 7, 5, 6, 26, 27] ?_
            refine sim_joinTN (V := ByteArray) (Y := Unit) (fun v10 y11 => ⟨[(5, iv (w64 (1 + (w64 ((Int.tmod a0 60)))))), (6, iv (w64 ((Int.tmod a1 8)))), (7, tv v10), (26, iv (w64 ((Int.tmod a1 8)))), (27, iv v6.2)], []⟩) (fun v10 y11 => []) ?_ fun v10 y11 => ?_
            · refine sim_block ?_
              refine sim_lp (V := ByteArray × Int) (Y := Unit) (fun k s => w11_MakeDeeps.l1 a0 k s) (fun v12 y13 => ⟨[(5, iv (w64 (1 + (w64 ((Int.tmod a0 60)))))), (6, iv (w64 ((Int.tmod a1 8)))), (7, tv v12.1), (26, iv (w64 ((Int.tmod a1 8)))), (27, iv v6.2), (32, iv (w64 ((w64 (1 + (w64 ((Int.tmod a0 60))))) - 1))), (33, iv v12.2)], []⟩) (fun v12 y13 => []) n ((v6.1 ++ (bs [102, 40])), 0) () [5, 6, 7, 26, 27, 32, 33] [] [] (fun k2 hk2 v12 y13 => ?_)
              refine sim_eq (w11_MakeDeeps.l1.eq_2 _ _ _) ?_
              refine sim_go [34, 5, 6, 7, 26, 27, 32, 33] ?_
              refine sim_seq ?_
              refine sim_ift ?_ ?_
              · refine sim_skip ?_
                refine of_seq ?_
                refine sim_seq ?_
                refine sim_block ?_
                refine sim_re [0, 1, 2] ?_
                refine run_go 1 [35, 5, 6, 26, 27, 32, 33] ?_
                refine run_fl (g_sadd 36 (by kernel_rfl) (by kernel_rfl)) fun _ => ?_
                refine run_go 1 [7, 5, 6, 26, 27, 32, 33] ?_
                refine run_nil ?_
                refine of_seq ?_
                refine sim_re [0, 1] ?_
                refine run_go 2 [33, 7, 5, 6, 26, 27, 32] ?_
                refine run_nil ?_
                exact at_rz ((v12.1 ++ (bs [49, 44, 32])), (w64 (v12.2 + 1))) () [5, 6, 7, 26, 27, 32, 33] [] []
              · refine sim_exit rfl ?_
                exact at_jz v12.1 () [5, 6, 7, 26, 27] [] []
            exact at_jz v10 () [5, 6, 7, 26, 27] [] []
          refine sim_re [0, 1] ?_
          refine run_go 2 [27, 5, 6, 7, 26] ?_
          refine run_nil ?_
          exact at_rz (v8, (w64 (v6.2 + 1))) () [5, 6, 7, 26, 27] [] []
        · refine sim_exit rfl ?_
          exact at_jz v6.1 () [5, 6, 7] [] []
      exact at_jz v4 () [5, 6, 7] [] []
    refine sim_rg [0, 1, 2] ?_
    refine run_go 1 [39, 5, 6] ?_
    refine run_fl (g_sadd 40 (by kernel_rfl) (by kernel_rfl)) fun _ => ?_
    refine run_go 1 [7, 5, 6] ?_
    refine run_sim ?_
    refine sim_joinN (V := ByteArray) (Y := Unit) (fun v14 y15 => ⟨[(5, iv (w64 (1 + (w64 ((Int.tmod a0 60)))))), (6, iv (w64 ((Int.tmod a1 8)))), (7, tv v14)], []⟩) (fun v14 y15 => []) ?_ fun v14 y15 => ?_
    · refine sim_gs (st' := ⟨[(42, iv 0), (41, iv (w64 ((Int.tmod a1 8)))), (7, tv (v2 ++ (bs [50]))), (5, iv (w64 (1 + (w64 ((Int.tmod a0 60)))))), (6, iv (w64 ((Int.tmod a1 8))))], []⟩) [42, 41, 7, 5, 6] ?_
      refine sim_joinTN (V := ByteArray) (Y := Unit) (fun v16 y17 => ⟨[(5, iv (w64 (1 + (w64 ((Int.tmod a0 60)))))), (6, iv (w64 ((Int.tmod a1 8)))), (7, tv v16)], []⟩) (fun v16 y17 => []) ?_ fun v16 y17 => ?_
      · refine sim_block ?_
        refine sim_lp (V := ByteArray × Int) (Y := Unit) (fun k s => w11_MakeDeeps.l2 a1 k s) (fun v18 y19 => ⟨[(5, iv (w64 (1 + (w64 ((Int.tmod a0 60)))))), (6, iv (w64 ((Int.tmod a1 8)))), (7, tv v18.1), (41, iv (w64 ((Int.tmod a1 8)))), (42, iv v18.2)], []⟩) (fun v18 y19 => []) n ((v2 ++ (bs [50])), 0) () [5, 6, 7, 41, 42] [] [] (fun k1 hk1 v18 y19 => ?_)
        refine sim_eq (w11_MakeDeeps.l2.eq_2 _ _ _) ?_
        refine sim_go [43, 5, 6, 7, 41, 42] ?_
        refine sim_seq ?_
        refine sim_ift ?_ ?_
        · refine sim_skip ?_
          refine of_seq ?_
          refine sim_seq ?_
          refine sim_block ?_
          refine sim_re [0, 1, 2] ?_
          refine run_go 1 [44, 5, 6, 41, 42] ?_
          refine run_fl (g_sadd 45 (by kernel_rfl) (by kernel_rfl)) fun _ => ?_
          refine run_go 1 [7, 5, 6, 41, 42] ?_
          refine run_nil ?_
          refine of_seq ?_
          refine sim_re [0, 1] ?_
          refine run_go 2 [42, 7, 5, 6, 41] ?_
          refine run_nil ?_
          exact at_rz ((v18.1 ++ (bs [41])), (w64 (v18.2 + 1))) () [5, 6, 7, 41, 42] [] []
        · refine sim_exit rfl ?_
          exact at_jz v18.1 () [5, 6, 7] [] []
      exact at_jz v16 () [5, 6, 7] [] []
    refine sim_rg [0, 1, 2] ?_
    refine run_go 1 [47, 5, 6] ?_
    refine run_fl (g_sadd 48 (by kernel_rfl) (by kernel_rfl)) fun _ => ?_
    refine run_go 1 [7, 5, 6] ?_
    refine run_sim ?_
    refine sim_joinN (V := ByteArray) (Y := Unit) (fun v20 y21 => ⟨[(5, iv (w64 (1 + (w64 ((Int.tmod a0 60)))))), (6, iv (w64 ((Int.tmod a1 8)))), (7, tv v20)], []⟩) (fun v20 y21 => []) ?_ fun v20 y21 => ?_
    · refine sim_gs (st' := ⟨[(50, iv 0), (49, iv (w64 (1 + (w64 ((Int.tmod a0 60)))))), (7, tv (v14 ++ (bs [59, 32, 125, 10, 102, 117, 110, 99, 32, 102, 40]))), (5, iv (w64 (1 + (w64 ((Int.tmod a0 60)))))), (6, iv (w64 ((Int.tmod a1 8))))], []⟩) [50, 49, 7, 5, 6] ?_
      refine sim_joinTN (V := ByteArray) (Y := Unit) (fun v22 y23 => ⟨[(5, iv (w64 (1 + (w64 ((Int.tmod a0 60)))))), (6, iv (w64 ((Int.tmod a1 8)))), (7, tv v22)], []⟩) (fun v22 y23 => []) ?_ fun v22 y23 => ?_
      · refine sim_block ?_
        refine sim_lp (V := ByteArray × Int) (Y := Unit) (fun k s => w11_MakeDeeps.l3 a0 k s) (fun v24 y25 => ⟨[(5, iv (w64 (1 + (w64 ((Int.tmod a0 60)))))), (6, iv (w64 ((Int.tmod a1 8)))), (7, tv v24.1), (49, iv (w64 (1 + (w64 ((Int.tmod a0 60)))))), (50, iv v24.2)], []⟩) (fun v24 y25 => []) n ((v14 ++ (bs [59, 32, 125, 10, 102, 117, 110, 99, 32, 102, 40])), 0) () [5, 6, 7, 49, 50] [] [] (fun k1 hk1 v24 y25 => ?_)
        refine sim_eq (w11_MakeDeeps.l3.eq_2 _ _ _) ?_
        refine sim_go [51, 5, 6, 7, 49, 50] ?_
        refine sim_seq ?_
        refine sim_ift ?_ ?_
        · refine sim_skip ?_
          refine of_seq ?_
          refine sim_joinN (V := ByteArray) (Y := Unit) (fun v26 y27 => ⟨[(5, iv (w64 (1 + (w64 ((Int.tmod a0 60)))))), (6, iv (w64 ((Int.tmod a1 8)))), (7, tv v26), (49, iv (w64 (1 + (w64 ((Int.tmod a0 60)))))), (50, iv v24.2)], []⟩) (fun v26 y27 => []) ?_ fun v26 y27 => ?_
          · refine sim_block ?_
            refine sim_gs (st' := ⟨[(8, iv v24.2), (5, iv (w64 (1 + (w64 ((Int.tmod a0 60)))))), (6, iv (w64 ((Int.tmod a1 8)))), (7, tv v24.1), (49, iv (w64 (1 + (w64 ((Int.tmod a0 60)))))), (50, iv v24.2)], []⟩) [8, 5, 6, 7, 49, 50] ?_
            refine sim_joinN (V := ByteArray) (Y := Unit) (fun v28 y29 => ⟨[(5, iv (w64 (1 + (w64 ((Int.tmod a0 60)))))), (6, iv (w64 ((Int.tmod a1 8)))), (7, tv v28), (8, iv v24.2), (49, iv (w64 (1 + (w64 ((Int.tmod a0 60)))))), (50, iv v24.2)], []⟩) (fun v28 y29 => []) ?_ fun v28 y29 => ?_
            · refine sim_go [54, 8, 5, 6, 7, 49, 50] ?_
              refine sim_ift ?_ ?_
              · refine sim_re [0, 1, 2] ?_
                refine run_go 1 [55, 8, 5, 6, 49, 50] ?_
                refine run_fl (g_sadd 56 (by kernel_rfl) (by kernel_rfl)) fun _ => ?_
                refine run_go 1 [7, 8, 5, 6, 49, 50] ?_
                refine run_nil ?_
                exact at_jz (v24.1 ++ (bs [44, 32])) () [5, 6, 7, 8, 49, 50] [] []
              · refine sim_skip ?_
                exact at_jz v24.1 () [5, 6, 7, 8, 49, 50] [] []
            refine sim_re [0, 1, 2, 3, 4, 5, 6, 7, 8, 9, 10, 11, 12, 13] ?_
            refine run_go 9 [65, 61, 57, 5, 6, 49, 50] ?_
            refine run_op (g_lit k_u8 [((IntKind.u8.wrap ((w64 (97 + (w64 (Int.tdiv v24.2 26)))))), ()), ((IntKind.u8.wrap ((w64 (97 + (Int.tmod v24.2 26))))), ())] 5 66 (by kernel_rfl) (fun _ => by kernel_rfl) [] (by kernel_rfl)) fun g30 => ?_
            refine run_fl (g_b2s (κ' := k_u8) (E := 5) (xs := ([(IntKind.u8.wrap ((w64 (97 + (w64 (Int.tdiv v24.2 26)))))), (IntKind.u8.wrap ((w64 (97 + (Int.tmod v24.2 26)))))] : List Int)) (hd' := (some ⟨g30, 0, none⟩, 2)) 0 (by kernel_rfl) (fun _ _ => rfl) 67 (by kernel_rfl) (by kernel_rfl)) fun _ => ?_
            refine run_fl (g_sadd 68 (by kernel_rfl) (by kernel_rfl)) fun _ => ?_
            refine run_fl (g_sadd 69 (by kernel_rfl) (by kernel_rfl)) fun _ => ?_
            refine run_go 1 [7, 5, 6, 49, 50] ?_
            refine run_nil ?_
            exact at_jz (v28 ++ ((bs [112]) ++ (b2s ([(IntKind.u8.wrap ((w64 (97 + (w64 (Int.tdiv v24.2 26)))))), (IntKind.u8.wrap ((w64 (97 + (Int.tmod v24.2 26)))))] : List Int)))) () [5, 6, 7, 49, 50] [] []
          refine sim_re [0, 1] ?_
          refine run_go 2 [50, 5, 6, 7, 49] ?_
          refine run_nil ?_
          exact at_rz (v26, (w64 (v24.2 + 1))) () [5, 6, 7, 49, 50] [] []
        · refine sim_exit rfl ?_
          exact at_jz v24.1 () [5, 6, 7] [] []
      exact at_jz v22 () [5, 6, 7] [] []
    refine sim_rg [0, 1, 2, 3, 4, 5, 6, 7, 8, 9, 10] ?_
    refine run_go 1 [72, 5, 6] ?_
    refine run_fl (g_sadd 73 (by kernel_rfl) (by kernel_rfl)) fun _ => ?_
    refine run_cz (fun v31 h => (p4_Parse.ok n) (v20 ++ (bs [41, 32, 105, 110, 116, 32, 123, 32, 125])) v31 h) (some 74) [] (fun v31 y32 => .tup [.agg (cvs k_Tree v31.1 y32), .s (ic v31.2.1), .s (ic v31.2.2)]) fun v31 y32 => ?_
    refine run_go 8 [11, 9, 5, 6] ?_
    refine run_sim ?_
    refine sim_seq ?_
    refine sim_go [79, 9, 5, 6] ?_
    refine sim_ift ?_ ?_
    · refine sim_go [4] ?_
      exact sim_ret false () rfl rfl (v := ov false) (by kernel_rfl) (fun _ => by kernel_rfl) (fun _ _ => pk_out' [] (by kernel_rfl))
    · refine sim_skip ?_
      refine of_seq ?_
      refine sim_rg [0, 1, 2, 3, 4, 5, 6, 7, 8, 9] ?_
      refine run_go 1 [81, 9, 5, 6] ?_
      refine run_cz (fun v33 h => (c6_Check.ok n) v31.1 y32 v33 h) (some 82) [(0, true), (1, true), (2, true)] (fun v33 y34 => .tup [.agg (cvs k_c6_Info v33.1 y34), .s (ic v33.2.1), .s (ic v33.2.2)]) fun v33 y34 => ?_
      refine run_go 8 [14, 12, 9, 5, 6] ?_
      refine run_sim ?_
      refine sim_rg [0, 1, 2, 3, 4, 5, 6, 7, 8] ?_
      refine run_go 2 [88, 87, 14, 5, 6] ?_
      refine run_cz (fun v35 h => (mk_Make.ok n) v31.1 v33.1 y32 y34 v35 h) (some 89) [(5, true), (6, true), (7, true), (0, true), (1, true), (2, true), (3, true), (4, true)] (fun v35 y36 => .tup [.agg (cvs k_Code v35.1 y36), .s (ic v35.2)]) fun v35 y36 => ?_
      refine run_go 6 [16, 14, 5, 6] ?_
      refine run_sim ?_
      refine sim_rg [0, 1, 2, 3, 4, 5, 6, 7, 8, 9, 10, 11, 12, 13, 14, 15, 16, 17, 18, 19, 20, 21] ?_
      refine run_sz (st' := ⟨[(94, ov (v33.2.2 == 0)), (16, iv v35.2), (5, iv (w64 (1 + (w64 ((Int.tmod a0 60)))))), (6, iv (w64 ((Int.tmod a1 8))))], [(15, 35, (cvs k_Code v35.1 y36)), (12, 64, (cvs k_c6_Info v33.1 y34)), (9, 27, (cvs k_Tree v31.1 y32))]⟩) 3 [94, 16, 5, 6] ?_
      refine run_joinN (V := Bool) (Y := Unit) [3, 4, 5, 6, 7, 8, 9, 10, 11, 12] [13, 14, 15, 16, 17, 18, 19, 20, 21] rfl (fun v37 y38 => ⟨[(16, iv v35.2), (104, ov v37)], []⟩) (fun v37 y38 => []) (run_split (fun b => ⟨[(94, ov b), (16, iv v35.2), (5, iv (w64 (1 + (w64 ((Int.tmod a0 60)))))), (6, iv (w64 ((Int.tmod a1 8))))], [(15, 35, (cvs k_Code v35.1 y36)), (12, 64, (cvs k_c6_Info v33.1 y34)), (9, 27, (cvs k_Tree v31.1 y32))]⟩) (fun _ => ?_) (fun _ => ?_)) fun v37 y38 => ?_
      · refine run_go 10 [104, 16] ?_
        exact run_az ((v35.2 == 0) == (decide ((w64 (1 + (w64 ((w64 ((Int.tmod a1 8))) * (w64 ((w64 (1 + (w64 ((Int.tmod a0 60))))) - 1)))))) ≤ 200))) () [16, 104] [] []
      · refine run_go 10 [104, 16] ?_
        exact run_az false () [16, 104] [] []
      refine run_sz (st' := ⟨[(105, ov v37), (16, iv v35.2)], []⟩) 1 [105, 16] ?_
      refine run_joinN (V := Bool) (Y := Unit) [14, 15, 16, 17, 18, 19, 20] [21] rfl (fun v39 y40 => ⟨[(112, ov v39)], []⟩) (fun v39 y40 => []) (run_split (fun b => ⟨[(105, ov b), (16, iv v35.2)], []⟩) (fun _ => ?_) (fun _ => ?_)) fun v39 y40 => ?_
      · refine run_sz (st' := ⟨[(108, ov (v35.2 == 0)), (105, ov true), (16, iv v35.2)], []⟩) 3 [108, 105, 16] ?_
        refine run_joinN (V := Bool) (Y := Unit) [17, 18, 19] [20] rfl (fun v41 y42 => ⟨[(105, ov true), (111, ov v41)], []⟩) (fun v41 y42 => []) (run_split (fun b => ⟨[(108, ov b), (105, ov true), (16, iv v35.2)], []⟩) (fun _ => ?_) (fun _ => ?_)) fun v41 y42 => ?_
        · refine run_go 3 [111, 105] ?_
          exact run_az true () [105, 111] [] []
        · refine run_go 3 [111, 105] ?_
          exact run_az (v35.2 == 4) () [105, 111] [] []
        refine run_go 1 [112] ?_
        exact run_az v41 () [112] [] []
      · refine run_go 7 [112] ?_
        exact run_az false () [112] [] []
      refine run_go 1 [4] ?_
      refine run_sim ?_
      exact sim_ret v39 () rfl rfl (v := ov v39) (by kernel_rfl) (fun _ => by kernel_rfl) (fun _ _ => pk_out' [] (by kernel_rfl))
end Go.SX
