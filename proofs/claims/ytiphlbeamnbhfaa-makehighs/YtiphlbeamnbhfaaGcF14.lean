/-
Functions of the program as Lean functions, and that the program computes them; printed by gen/main.py.
No conditions.
-/
import Derived.Test.YtiphlbeamnbhfaaGcF13
namespace Go.SX
open Go.Proofs
set_option linter.unusedVariables false
set_option maxRecDepth 100000
set_option maxHeartbeats 2000000
def mm_function.f (n : Nat) (a0 : S_mm) (a1 : Int) (a2 : S_Func) : Option ((List S_Proc) × (List S_Instr) × (List S_mk_loop)) :=
  if (0 : Int) ≤ a1 ∧ a1 < (a0.Info.Slots.length : Int) then (mm_list.f n a0 a2.Body).bind fun v3 => (if (a2.Type_ == 1) = true then (mm_put.f (S_mm.mk a0.Tree a0.Info (S_Code.mk a0.Code.Procs v3.1) v3.2) 2 0).bind fun v7 => (mm_put.f (S_mm.mk a0.Tree a0.Info (S_Code.mk a0.Code.Procs v7.2) v3.2) 27 1).bind fun v9 => some v9.2 else (mm_put.f (S_mm.mk a0.Tree a0.Info (S_Code.mk a0.Code.Procs v3.1) v3.2) 27 0).bind fun v11 => some v11.2 : Option (List S_Instr)).bind fun v5 => if a0.Code.Procs.length + ([S_Proc.mk a2.Name (a0.Code.List_.length : Int) (v5.length : Int) (a2.Params.length : Int) ((a0.Info.Slots.getD a1.toNat []).length : Int) a2.Type_] : List S_Proc).length < 4294967296 then some ((a0.Code.Procs ++ ([S_Proc.mk a2.Name (a0.Code.List_.length : Int) (v5.length : Int) (a2.Params.length : Int) ((a0.Info.Slots.getD a1.toNat []).length : Int) a2.Type_] : List S_Proc)), v5, v3.2) else none else none
theorem mm_function.body : Try.f26.body = some (.seq (.region 0 (rg Try.f26 0) false) (.seq (.region 1 (rg Try.f26 1) true) (.seq (.region 2 (rg Try.f26 2) false) (.seq (.seq (.region 3 (rg Try.f26 3) false) (.cond (.tmp 36) (.seq (.region 4 (rg Try.f26 4) false) (.region 5 (rg Try.f26 5) false)) (.region 6 (rg Try.f26 6) false))) (.seq (.region 7 (rg Try.f26 7) false) (.region 8 (rg Try.f26 8) true)))))) := by kernel_rfl
def mm_function.Ok (n : Nat) : Prop := ∀ (b : Nat) (a0 : S_mm) (a1 : Int) (a2 : S_Func) (y_0 : HdN 11) (y_2 : HdN 2) (r : (List S_Proc) × (List S_Instr) × (List S_mk_loop)), mm_function.f n a0 a1 a2 = some r → Spec Try.prog 26 #[.pointer (some ⟨b, 0, none⟩), .int .i64 a1, k_Func.val a2 y_2] [blk b (.cells (k_mm.enc a0 y_0).toArray 99 (0, 0)), ro k_Expr a0.Tree.Exprs y_0.1, ro k_Stmt a0.Tree.Stmts y_0.2.1, ro k_Func a0.Tree.Funcs y_0.2.2.1, ro k_i64 a0.Info.Type_ y_0.2.2.2.1, ro k_i64 a0.Info.Slot y_0.2.2.2.2.1, ro k_i64 a0.Info.Put y_0.2.2.2.2.2.1, ro k_i64 a0.Info.Func_ y_0.2.2.2.2.2.2.1, ro k_sl_i64 a0.Info.Slots y_0.2.2.2.2.2.2.2.1, own k_Proc 52 a0.Code.Procs y_0.2.2.2.2.2.2.2.2.1, own k_Instr 54 a0.Code.List_ y_0.2.2.2.2.2.2.2.2.2.1, own k_mk_loop 135 a0.loops y_0.2.2.2.2.2.2.2.2.2.2.1, ro k_str a2.Params y_2.1, ro k_i64 a2.Body y_2.2.1] ((HdN 1) × (HdN 1) × (HdN 1)) (fun x => .tuple #[]) (fun x => [blk b (.cells #[slv a0.Tree.Exprs.length y_0.1, slv a0.Tree.Stmts.length y_0.2.1, slv a0.Tree.Funcs.length y_0.2.2.1, slv a0.Info.Type_.length y_0.2.2.2.1, slv a0.Info.Slot.length y_0.2.2.2.2.1, slv a0.Info.Put.length y_0.2.2.2.2.2.1, slv a0.Info.Func_.length y_0.2.2.2.2.2.2.1, slv a0.Info.Slots.length y_0.2.2.2.2.2.2.2.1, slv r.1.length x.1.1, slv r.2.1.length x.2.1.1, slv r.2.2.length x.2.2.1] 99 (0, 0)), own k_Proc 52 r.1 x.1.1, own k_Instr 54 r.2.1 x.2.1.1, own k_mk_loop 135 r.2.2 x.2.2.1])
theorem mm_function.ok (n : Nat) : mm_function.Ok n := by
  intro b a0 a1 a2 y_0 y_2 r h
  rw [mm_function.f.eq_1] at h
  refine spec_gop (X := (HdN 1) × (HdN 1) × (HdN 1)) (val := fun r x => .tuple #[]) (ch := fun r x => [blk b (.cells #[slv a0.Tree.Exprs.length y_0.1, slv a0.Tree.Stmts.length y_0.2.1, slv a0.Tree.Funcs.length y_0.2.2.1, slv a0.Info.Type_.length y_0.2.2.2.1, slv a0.Info.Slot.length y_0.2.2.2.2.1, slv a0.Info.Put.length y_0.2.2.2.2.2.1, slv a0.Info.Func_.length y_0.2.2.2.2.2.2.1, slv a0.Info.Slots.length y_0.2.2.2.2.2.2.2.1, slv r.1.length x.1.1, slv r.2.1.length x.2.1.1, slv r.2.2.length x.2.2.1] 99 (0, 0)), own k_Proc 52 r.1 x.1.1, own k_Instr 54 r.2.1 x.2.1.1, own k_mk_loop 135 r.2.2 x.2.2.1]) 0 b 99 (cvs k_mm a0 y_0) _ [xv 0 0, iv a1, .o (.agg (cvs k_Func a2 y_2))] (by kernel_rfl) mm_function.body h (by kernel_rfl) (fun _ e => by subst e; kernel_rfl) (fun _ => by kernel_rfl) fun D => ?_
  refine sim_go [5, 0, 1] ?_
  refine sim_draw (f1 := [17, 18]) (f0 := [1, 6, 9, 15, 21]) (fp := [0, 2, 3, 4, 5, 7, 8, 10, 11, 12, 13, 14, 16, 19, 20, 22]) (b1 := [24]) (b0 := [24]) (bm := []) (bs := [(5, 50, (cvs k_Func a2 y_2)), (0, 99, (cvs k_mm a0 y_0))]) (Am := []) (As := [ro k_Expr a0.Tree.Exprs y_0.1, ro k_Stmt a0.Tree.Stmts y_0.2.1, ro k_Func a0.Tree.Funcs y_0.2.2.1, ro k_i64 a0.Info.Type_ y_0.2.2.2.1, ro k_i64 a0.Info.Slot y_0.2.2.2.2.1, ro k_i64 a0.Info.Put y_0.2.2.2.2.2.1, ro k_i64 a0.Info.Func_ y_0.2.2.2.2.2.2.1, ro k_sl_i64 a0.Info.Slots y_0.2.2.2.2.2.2.2.1, own k_Proc 52 a0.Code.Procs y_0.2.2.2.2.2.2.2.2.1, own k_Instr 54 a0.Code.List_ y_0.2.2.2.2.2.2.2.2.2.1, own k_mk_loop 135 a0.loops y_0.2.2.2.2.2.2.2.2.2.2.1, ro k_str a2.Params y_2.1, ro k_i64 a2.Body y_2.2.1]) (.lin [0, 1, 2, 3, 4, 5, 6, 7, 8, 9, 10, 11, 12, 13, 14, 15, 16, 17, 18, 19, 20, 21, 22, 23, 24]) (by kernel_rfl) [] (by kernel_rfl) [] (by kernel_rfl) ?_
  refine rund_next ?_
  refine rund_steps (st' := ⟨[(23, iv a1), (22, lv a0.Info.Slots.length y_0.2.2.2.2.2.2.2.1), (17, iv (a2.Params.length : Int)), (14, iv (a0.Code.List_.length : Int)), (8, tv a2.Name), (5, xv 5 0), (0, xv 0 0)], []⟩) 17 [23, 22, 17, 14, 8, 5, 0] (by kernel_rfl) ?_
  refine rund_fl (by kernel_rfl) (g_idxr 7 rfl 24 (by kernel_rfl) (by kernel_rfl)) fun ⟨H1⟩ => ?_
  refine rund_fl (by kernel_rfl) (g_ldr 7 rfl [] H1 25 false 1 0 (by kernel_rfl) (by kernel_rfl)) fun y2 => ?_
  refine rund_As (A' := [ro k_i64 (a0.Info.Slots.getD a1.toNat []) y2.1, ro k_Expr a0.Tree.Exprs y_0.1, ro k_Stmt a0.Tree.Stmts y_0.2.1, ro k_Func a0.Tree.Funcs y_0.2.2.1, ro k_i64 a0.Info.Type_ y_0.2.2.2.1, ro k_i64 a0.Info.Slot y_0.2.2.2.2.1, ro k_i64 a0.Info.Put y_0.2.2.2.2.2.1, ro k_i64 a0.Info.Func_ y_0.2.2.2.2.2.2.1, ro k_sl_i64 a0.Info.Slots y_0.2.2.2.2.2.2.2.1, own k_Proc 52 a0.Code.Procs y_0.2.2.2.2.2.2.2.2.1, own k_Instr 54 a0.Code.List_ y_0.2.2.2.2.2.2.2.2.2.1, own k_mk_loop 135 a0.loops y_0.2.2.2.2.2.2.2.2.2.2.1, ro k_str a2.Params y_2.1, ro k_i64 a2.Body y_2.2.1]) (by kernel_rfl) ?_
  refine rund_steps (st' := ⟨[(29, .o (.agg ([tc a2.Name, ic (a0.Code.List_.length : Int), ic 0, ic (a2.Params.length : Int), ic ((a0.Info.Slots.getD a1.toNat []).length : Int), ic a2.Type_]))), (5, xv 5 0), (0, xv 0 0)], []⟩) 4 [29, 5, 0] (by kernel_rfl) ?_
  refine rund_step (st' := ⟨[(6, xv 6 0), (29, .o (.agg ([tc a2.Name, ic (a0.Code.List_.length : Int), ic 0, ic (a2.Params.length : Int), ic ((a0.Info.Slots.getD a1.toNat []).length : Int), ic a2.Type_]))), (5, xv 5 0), (0, xv 0 0)], [(6, 52, [tc (bs []), ic 0, ic 0, ic 0, ic 0, ic 0])]⟩) (by kernel_rfl) (by kernel_rfl) (by kernel_rfl) ?_
  refine rund_leave (by kernel_rfl) ?_
  refine run_go 1 [6, 5, 0] ?_
  refine run_sim ?_
  refine sim_rg [0, 1, 2, 3] ?_
  refine run_go 3 [32, 30, 6, 5, 0] ?_
  refine run_callp (fun b v3 h => (mm_list.ok n) b a0 a2.Body y_0 y_2.2 v3 h) 0 (some 33) (by kernel_rfl) (fun _ => by kernel_rfl) (fun _ => by kernel_rfl) [(1, true), (2, true), (3, true), (4, true), (5, true), (6, true), (7, true), (8, true), (10, false), (10, false), (11, true)] (by kernel_rfl) (fun v3 y4 => .tup []) (fun _ _ _ => by kernel_rfl) 99 (fun v3 y4 => [lc a0.Tree.Exprs.length y_0.1, lc a0.Tree.Stmts.length y_0.2.1, lc a0.Tree.Funcs.length y_0.2.2.1, lc a0.Info.Type_.length y_0.2.2.2.1, lc a0.Info.Slot.length y_0.2.2.2.2.1, lc a0.Info.Put.length y_0.2.2.2.2.2.1, lc a0.Info.Func_.length y_0.2.2.2.2.2.2.1, lc a0.Info.Slots.length y_0.2.2.2.2.2.2.2.1, lc a0.Code.Procs.length y_0.2.2.2.2.2.2.2.2.1, lc v3.1.length y4.1.1, lc v3.2.length y4.2.1]) (fun _ _ _ => by kernel_rfl) fun v3 y4 => ?_
  refine run_sim ?_
  refine sim_joinN (V := (List S_Instr)) (Y := Hd) (fun v5 y6 => ⟨[(0, xv 0 0), (6, xv 6 0)], [(0, 99, [lc a0.Tree.Exprs.length y_0.1, lc a0.Tree.Stmts.length y_0.2.1, lc a0.Tree.Funcs.length y_0.2.2.1, lc a0.Info.Type_.length y_0.2.2.2.1, lc a0.Info.Slot.length y_0.2.2.2.2.1, lc a0.Info.Put.length y_0.2.2.2.2.2.1, lc a0.Info.Func_.length y_0.2.2.2.2.2.2.1, lc a0.Info.Slots.length y_0.2.2.2.2.2.2.2.1, lc a0.Code.Procs.length y_0.2.2.2.2.2.2.2.2.1, lc v5.length y6, lc v3.2.length y4.2.1]), (6, 52, [tc a2.Name, ic (a0.Code.List_.length : Int), ic 0, ic (a2.Params.length : Int), ic ((a0.Info.Slots.getD a1.toNat []).length : Int), ic a2.Type_])]⟩) (fun v5 y6 => [ro k_Expr a0.Tree.Exprs y_0.1, ro k_Stmt a0.Tree.Stmts y_0.2.1, ro k_Func a0.Tree.Funcs y_0.2.2.1, ro k_i64 a0.Info.Type_ y_0.2.2.2.1, ro k_i64 a0.Info.Slot y_0.2.2.2.2.1, ro k_i64 a0.Info.Put y_0.2.2.2.2.2.1, ro k_i64 a0.Info.Func_ y_0.2.2.2.2.2.2.1, ro k_sl_i64 a0.Info.Slots y_0.2.2.2.2.2.2.2.1, own k_Proc 52 a0.Code.Procs y_0.2.2.2.2.2.2.2.2.1, own k_Instr 54 v5 y6, own k_mk_loop 135 v3.2 y4.2.1]) ?_ fun v5 y6 => ?_
  · refine sim_go [36, 6, 0] ?_
    refine sim_ift ?_ ?_
    · refine sim_rg [0, 1] ?_
      refine run_go 1 [37, 6, 0] ?_
      refine run_callp (fun b v7 h => (mm_put.ok) b (S_mm.mk a0.Tree a0.Info (S_Code.mk a0.Code.Procs v3.1) v3.2) 2 0 (y_0.1, y_0.2.1, y_0.2.2.1, y_0.2.2.2.1, y_0.2.2.2.2.1, y_0.2.2.2.2.2.1, y_0.2.2.2.2.2.2.1, y_0.2.2.2.2.2.2.2.1, y_0.2.2.2.2.2.2.2.2.1, y4.1.1, y4.2.1, ()) v7 h) 0 (some 38) (by kernel_rfl) (fun _ => by kernel_rfl) (fun _ => by kernel_rfl) [(3, true), (4, true), (5, true), (6, true), (7, true), (8, true), (9, true), (10, true), (0, false)] (by kernel_rfl) (fun v7 y8 => iv v7.1) (fun _ _ _ => by kernel_rfl) 99 (fun v7 y8 => [lc a0.Tree.Exprs.length y_0.1, lc a0.Tree.Stmts.length y_0.2.1, lc a0.Tree.Funcs.length y_0.2.2.1, lc a0.Info.Type_.length y_0.2.2.2.1, lc a0.Info.Slot.length y_0.2.2.2.2.1, lc a0.Info.Put.length y_0.2.2.2.2.2.1, lc a0.Info.Func_.length y_0.2.2.2.2.2.2.1, lc a0.Info.Slots.length y_0.2.2.2.2.2.2.2.1, lc a0.Code.Procs.length y_0.2.2.2.2.2.2.2.2.1, lc v7.2.length y8.1, lc v3.2.length y4.2.1]) (fun _ _ _ => by kernel_rfl) fun v7 y8 => ?_
      refine run_sim ?_
      refine sim_re [0, 1] ?_
      refine run_go 1 [39, 6, 0] ?_
      refine run_callp (fun b v9 h => (mm_put.ok) b (S_mm.mk a0.Tree a0.Info (S_Code.mk a0.Code.Procs v7.2) v3.2) 27 1 (y_0.1, y_0.2.1, y_0.2.2.1, y_0.2.2.2.1, y_0.2.2.2.2.1, y_0.2.2.2.2.2.1, y_0.2.2.2.2.2.2.1, y_0.2.2.2.2.2.2.2.1, y_0.2.2.2.2.2.2.2.2.1, y8.1, y4.2.1, ()) v9 h) 0 (some 40) (by kernel_rfl) (fun _ => by kernel_rfl) (fun _ => by kernel_rfl) [(3, true), (4, true), (5, true), (6, true), (7, true), (8, true), (9, true), (10, true), (0, false)] (by kernel_rfl) (fun v9 y10 => iv v9.1) (fun _ _ _ => by kernel_rfl) 99 (fun v9 y10 => [lc a0.Tree.Exprs.length y_0.1, lc a0.Tree.Stmts.length y_0.2.1, lc a0.Tree.Funcs.length y_0.2.2.1, lc a0.Info.Type_.length y_0.2.2.2.1, lc a0.Info.Slot.length y_0.2.2.2.2.1, lc a0.Info.Put.length y_0.2.2.2.2.2.1, lc a0.Info.Func_.length y_0.2.2.2.2.2.2.1, lc a0.Info.Slots.length y_0.2.2.2.2.2.2.2.1, lc a0.Code.Procs.length y_0.2.2.2.2.2.2.2.2.1, lc v9.2.length y10.1, lc v3.2.length y4.2.1]) (fun _ _ _ => by kernel_rfl) fun v9 y10 => ?_
      refine run_nil ?_
      exact at_j v9.2 y10.1 [0, 6] [0, 6] [(3, true), (4, true), (5, true), (6, true), (7, true), (8, true), (9, true), (10, true), (11, false), (0, false), (0, false)] (by kernel_rfl) (by kernel_rfl) rfl
    · refine sim_re [0, 1] ?_
      refine run_go 1 [41, 6, 0] ?_
      refine run_callp (fun b v11 h => (mm_put.ok) b (S_mm.mk a0.Tree a0.Info (S_Code.mk a0.Code.Procs v3.1) v3.2) 27 0 (y_0.1, y_0.2.1, y_0.2.2.1, y_0.2.2.2.1, y_0.2.2.2.2.1, y_0.2.2.2.2.2.1, y_0.2.2.2.2.2.2.1, y_0.2.2.2.2.2.2.2.1, y_0.2.2.2.2.2.2.2.2.1, y4.1.1, y4.2.1, ()) v11 h) 0 (some 42) (by kernel_rfl) (fun _ => by kernel_rfl) (fun _ => by kernel_rfl) [(3, true), (4, true), (5, true), (6, true), (7, true), (8, true), (9, true), (10, true), (0, false)] (by kernel_rfl) (fun v11 y12 => iv v11.1) (fun _ _ _ => by kernel_rfl) 99 (fun v11 y12 => [lc a0.Tree.Exprs.length y_0.1, lc a0.Tree.Stmts.length y_0.2.1, lc a0.Tree.Funcs.length y_0.2.2.1, lc a0.Info.Type_.length y_0.2.2.2.1, lc a0.Info.Slot.length y_0.2.2.2.2.1, lc a0.Info.Put.length y_0.2.2.2.2.2.1, lc a0.Info.Func_.length y_0.2.2.2.2.2.2.1, lc a0.Info.Slots.length y_0.2.2.2.2.2.2.2.1, lc a0.Code.Procs.length y_0.2.2.2.2.2.2.2.2.1, lc v11.2.length y12.1, lc v3.2.length y4.2.1]) (fun _ _ _ => by kernel_rfl) fun v11 y12 => ?_
      refine run_nil ?_
      exact at_j v11.2 y12.1 [0, 6] [0, 6] [(3, true), (4, true), (5, true), (6, true), (7, true), (8, true), (9, true), (10, true), (11, false), (0, false), (0, false)] (by kernel_rfl) (by kernel_rfl) rfl
  refine sim_go [0, 6] ?_
  refine sim_draw_end (f1 := []) (f0 := [5, 6]) (fp := [0, 1, 2, 3, 4]) (b1 := [7, 8, 9, 10, 11, 12]) (b0 := [8, 9, 10, 11, 12]) (bm := []) (bs := [(0, 99, [lc a0.Tree.Exprs.length y_0.1, lc a0.Tree.Stmts.length y_0.2.1, lc a0.Tree.Funcs.length y_0.2.2.1, lc a0.Info.Type_.length y_0.2.2.2.1, lc a0.Info.Slot.length y_0.2.2.2.2.1, lc a0.Info.Put.length y_0.2.2.2.2.2.1, lc a0.Info.Func_.length y_0.2.2.2.2.2.2.1, lc a0.Info.Slots.length y_0.2.2.2.2.2.2.2.1, lc a0.Code.Procs.length y_0.2.2.2.2.2.2.2.2.1, lc v5.length y6, lc v3.2.length y4.2.1]), (6, 52, [tc a2.Name, ic (a0.Code.List_.length : Int), ic (v5.length : Int), ic (a2.Params.length : Int), ic ((a0.Info.Slots.getD a1.toNat []).length : Int), ic a2.Type_])]) (Am := []) (As := [ro k_Expr a0.Tree.Exprs y_0.1, ro k_Stmt a0.Tree.Stmts y_0.2.1, ro k_Func a0.Tree.Funcs y_0.2.2.1, ro k_i64 a0.Info.Type_ y_0.2.2.2.1, ro k_i64 a0.Info.Slot y_0.2.2.2.2.1, ro k_i64 a0.Info.Put y_0.2.2.2.2.2.1, ro k_i64 a0.Info.Func_ y_0.2.2.2.2.2.2.1, ro k_sl_i64 a0.Info.Slots y_0.2.2.2.2.2.2.2.1, own k_Proc 52 a0.Code.Procs y_0.2.2.2.2.2.2.2.2.1, own k_Instr 54 v5 y6, own k_mk_loop 135 v3.2 y4.2.1]) (.lin [0, 1, 2, 3, 4, 5, 6, 7, 8, 9, 10, 11, 12]) (by kernel_rfl) [] (by kernel_rfl) [] (by kernel_rfl) ?_
  refine rund_next ?_
  refine rund_demote ?_
  refine rund_steps (st' := ⟨[(56, .o (.agg ([tc a2.Name, ic (a0.Code.List_.length : Int), ic (v5.length : Int), ic (a2.Params.length : Int), ic ((a0.Info.Slots.getD a1.toNat []).length : Int), ic a2.Type_]))), (55, lv a0.Code.Procs.length y_0.2.2.2.2.2.2.2.2.1), (50, xv 0 0)], []⟩) 7 [56, 55, 50] (by kernel_rfl) ?_
  refine rund_op (by kernel_rfl) (by kernel_rfl) (g_lit k_Proc [(S_Proc.mk a2.Name (a0.Code.List_.length : Int) (v5.length : Int) (a2.Params.length : Int) ((a0.Info.Slots.getD a1.toNat []).length : Int) a2.Type_, ())] 52 57 (by kernel_rfl) (fun _ => by kernel_rfl) [] (by kernel_rfl)) fun g13 => ?_
  refine rund_A (A' := [own k_Proc 52 ([S_Proc.mk a2.Name (a0.Code.List_.length : Int) (v5.length : Int) (a2.Params.length : Int) ((a0.Info.Slots.getD a1.toNat []).length : Int) a2.Type_] : List S_Proc) (some ⟨g13, 0, none⟩, 1), ro k_Expr a0.Tree.Exprs y_0.1, ro k_Stmt a0.Tree.Stmts y_0.2.1, ro k_Func a0.Tree.Funcs y_0.2.2.1, ro k_i64 a0.Info.Type_ y_0.2.2.2.1, ro k_i64 a0.Info.Slot y_0.2.2.2.2.1, ro k_i64 a0.Info.Put y_0.2.2.2.2.2.1, ro k_i64 a0.Info.Func_ y_0.2.2.2.2.2.2.1, ro k_sl_i64 a0.Info.Slots y_0.2.2.2.2.2.2.2.1, own k_Proc 52 a0.Code.Procs y_0.2.2.2.2.2.2.2.2.1, own k_Instr 54 v5 y6, own k_mk_loop 135 v3.2 y4.2.1]) (by kernel_rfl) ?_
  refine rund_leave (by kernel_rfl) ?_
  refine run_op (g_app (E := 52) (S := 32) (S2 := 32) (c2 := ((some ⟨g13, 0, none⟩, 1) : Hd).2) (κ' := k_Proc) (xs := a0.Code.Procs) (ys := ([S_Proc.mk a2.Name (a0.Code.List_.length : Int) (v5.length : Int) (a2.Params.length : Int) ((a0.Info.Slots.getD a1.toNat []).length : Int) a2.Type_] : List S_Proc)) (hd' := y_0.2.2.2.2.2.2.2.2.1) 9 (by kernel_rfl) 0 false (by kernel_rfl) (src_own k_Proc 52 ([S_Proc.mk a2.Name (a0.Code.List_.length : Int) (v5.length : Int) (a2.Params.length : Int) ((a0.Info.Slots.getD a1.toNat []).length : Int) a2.Type_] : List S_Proc) (some ⟨g13, 0, none⟩, 1)) 58 (by kernel_rfl) (by kernel_rfl)) fun g14 => ?_
  refine run_go 4 [] ?_
  refine run_nil ?_
  exact at_ret ((a0.Code.Procs ++ ([S_Proc.mk a2.Name (a0.Code.List_.length : Int) (v5.length : Int) (a2.Params.length : Int) ((a0.Info.Slots.getD a1.toNat []).length : Int) a2.Type_] : List S_Proc)), v5, v3.2) ((g14, ()), (y6, ()), y4.2) rfl (v := .tup []) (by kernel_rfl) (fun _ => by kernel_rfl) (fun _ hf => pk_outb (k := 0) (hf (0, b) (List.Mem.head _)) (by refine ⟨by kernel_rfl, fun _ => by kernel_rfl⟩) (by kernel_rfl) [(0, false), (8, false), (8, false)] (by kernel_rfl))
def mk_Make.l0 (n : Nat) (a0 : S_Tree) (a1 : S_c6_Info) : Nat → (Int × (List S_Proc) × (List S_Instr) × (List S_mk_loop)) → Option S_mm
  | 0, _ => none
  | k1 + 1, v6 => if (decide (v6.1 < (a0.Funcs.length : Int))) = true then if (0 : Int) ≤ v6.1 ∧ v6.1 < (a0.Funcs.length : Int) then (mm_function.f n (S_mm.mk a0 a1 (S_Code.mk v6.2.1 v6.2.2.1) v6.2.2.2) v6.1 (a0.Funcs.getD v6.1.toNat S_Func.zero)).bind fun v10 => mk_Make.l0 n a0 a1 k1 ((w64 (v6.1 + 1)), v10.1, v10.2.1, v10.2.2) else none else some (S_mm.mk a0 a1 (S_Code.mk v6.2.1 v6.2.2.1) v6.2.2.2)
def mk_Make.f (n : Nat) (a0 : S_Tree) (a1 : S_c6_Info) : Option (S_Code × Int) :=
  (mk_deep.f n a0).bind fun v1 => if v1 = true then some (S_Code.mk ([]) ([]), 4) else ((mk_Make.l0 n a0 a1 n (0, [], [], []) : Option S_mm).bind fun v4 => some v4 : Option S_mm).bind fun v2 => some (v2.Code, 0)
theorem mk_Make.body : Try.f15.body = some (.seq (.region 0 (rg Try.f15 0) false) (.seq (.seq (.region 1 (rg Try.f15 1) false) (.cond (.tmp 10) (.seq (.region 2 (rg Try.f15 2) false) .ret) .skip)) (.seq (.region 3 (rg Try.f15 3) false) (.seq (.seq (.region 4 (rg Try.f15 4) false) (.block 0 (.loop (.seq (.region 5 (rg Try.f15 5) false) (.seq (.cond (.tmp 20) .skip (.exit 0)) (.seq (.block 1 (.seq (.region 6 (rg Try.f15 6) false) (.region 7 (rg Try.f15 7) false))) (.region 8 (rg Try.f15 8) false))))))) (.seq (.region 9 (rg Try.f15 9) false) .ret))))) := by kernel_rfl
def mk_Make.Ok (n : Nat) : Prop := ∀ (a0 : S_Tree) (a1 : S_c6_Info) (y_0 : HdN 3) (y_1 : HdN 5) (r : S_Code × Int), mk_Make.f n a0 a1 = some r → Spec Try.prog 15 #[k_Tree.val a0 y_0, k_c6_Info.val a1 y_1] [ro k_Expr a0.Exprs y_0.1, ro k_Stmt a0.Stmts y_0.2.1, ro k_Func a0.Funcs y_0.2.2.1, ro k_i64 a1.Type_ y_1.1, ro k_i64 a1.Slot y_1.2.1, ro k_i64 a1.Put y_1.2.2.1, ro k_i64 a1.Func_ y_1.2.2.2.1, ro k_sl_i64 a1.Slots y_1.2.2.2.2.1] ((HdN 2)) (fun x => .tuple #[k_Code.val r.1 x, .int .i64 r.2]) (fun x => [ro k_Proc r.1.Procs x.1, ro k_Instr r.1.List_ x.2.1])
theorem mk_Make.ok (n : Nat) : mk_Make.Ok n := by
  intro a0 a1 y_0 y_1 r h
  rw [mk_Make.f.eq_1] at h
  refine spec_go (X := (HdN 2)) (val := fun r x => .tuple #[k_Code.val r.1 x, .int .i64 r.2]) (ch := fun r x => [ro k_Proc r.1.Procs x.1, ro k_Instr r.1.List_ x.2.1]) [.o (.agg (cvs k_Tree a0 y_0)), .o (.agg (cvs k_c6_Info a1 y_1))] (by kernel_rfl) mk_Make.body h (by kernel_rfl) (fun _ => by kernel_rfl) fun D => ?_
  refine sim_go [4, 3, 2] ?_
  refine sim_seq ?_
  refine sim_rg [0, 1] ?_
  refine run_go 1 [9, 4, 3, 2] ?_
  refine run_call (fun v1 h => (mk_deep.ok n) a0 y_0 v1 h) (some 10) (by kernel_rfl) (fun _ => by kernel_rfl) [(0, true), (1, true), (2, true)] (by kernel_rfl) (fun v1 _ => ov v1) (fun _ _ _ => by kernel_rfl) fun v1 _ => ?_
  refine run_sim ?_
  refine sim_ift ?_ ?_
  · refine sim_go [5, 4] ?_
    refine sim_ent (e_ron k_Proc (none, 0)) ?_
    refine sim_ent (e_ron k_Instr (none, 0)) ?_
    exact sim_ret (S_Code.mk ([]) ([]), 4) ((none, 0), (none, 0), ()) rfl rfl (v := .tup [.agg ([.v (.slice none 0 0), .v (.slice none 0 0)]), .s (ic 4)]) (by kernel_rfl) (fun _ => by kernel_rfl) (fun _ _ => pk_out' [(1, true), (0, true)] (by kernel_rfl))
  · refine sim_skip ?_
    refine of_seq ?_
    refine sim_gs (st' := ⟨[(6, xv 15 0), (4, xv 4 0), (2, xv 2 0)], [(15, 99, [lc a0.Exprs.length y_0.1, lc a0.Stmts.length y_0.2.1, lc a0.Funcs.length y_0.2.2.1, lc a1.Type_.length y_1.1, lc a1.Slot.length y_1.2.1, lc a1.Put.length y_1.2.2.1, lc a1.Func_.length y_1.2.2.2.1, lc a1.Slots.length y_1.2.2.2.2.1, .v (.slice none 0 0), .v (.slice none 0 0), .v (.slice none 0 0)]), (4, 35, [.v (.slice none 0 0), .v (.slice none 0 0)]), (3, 31, (cvs k_c6_Info a1 y_1)), (2, 27, (cvs k_Tree a0 y_0))]⟩) [6, 4, 2] ?_
    refine sim_joinN (V := S_mm) (Y := (HdN 11)) (fun v2 y3 => ⟨[(4, xv 4 0), (6, xv 15 0)], [(4, 35, [.v (.slice none 0 0), .v (.slice none 0 0)]), (15, 99, (cvs k_mm v2 y3))]⟩) (fun v2 y3 => [ro k_Expr v2.Tree.Exprs y3.1, ro k_Stmt v2.Tree.Stmts y3.2.1, ro k_Func v2.Tree.Funcs y3.2.2.1, ro k_i64 v2.Info.Type_ y3.2.2.2.1, ro k_i64 v2.Info.Slot y3.2.2.2.2.1, ro k_i64 v2.Info.Put y3.2.2.2.2.2.1, ro k_i64 v2.Info.Func_ y3.2.2.2.2.2.2.1, ro k_sl_i64 v2.Info.Slots y3.2.2.2.2.2.2.2.1, own k_Proc 52 v2.Code.Procs y3.2.2.2.2.2.2.2.2.1, own k_Instr 54 v2.Code.List_ y3.2.2.2.2.2.2.2.2.2.1, own k_mk_loop 135 v2.loops y3.2.2.2.2.2.2.2.2.2.2.1]) ?_ fun v2 y3 => ?_
    · refine sim_gs (st' := ⟨[(19, iv 0), (18, iv (a0.Funcs.length : Int)), (17, lv a0.Funcs.length y_0.2.2.1), (6, xv 15 0), (4, xv 4 0)], [(15, 99, [lc a0.Exprs.length y_0.1, lc a0.Stmts.length y_0.2.1, lc a0.Funcs.length y_0.2.2.1, lc a1.Type_.length y_1.1, lc a1.Slot.length y_1.2.1, lc a1.Put.length y_1.2.2.1, lc a1.Func_.length y_1.2.2.2.1, lc a1.Slots.length y_1.2.2.2.2.1, .v (.slice none 0 0), .v (.slice none 0 0), .v (.slice none 0 0)]), (4, 35, [.v (.slice none 0 0), .v (.slice none 0 0)]), (3, 31, (cvs k_c6_Info a1 y_1)), (2, 27, (cvs k_Tree a0 y_0))]⟩) [19, 18, 17, 6, 4] ?_
      refine sim_joinTN (V := S_mm) (Y := (HdN 11)) (fun v4 y5 => ⟨[(4, xv 4 0), (6, xv 15 0)], [(4, 35, [.v (.slice none 0 0), .v (.slice none 0 0)]), (15, 99, (cvs k_mm v4 y5))]⟩) (fun v4 y5 => [ro k_Expr v4.Tree.Exprs y5.1, ro k_Stmt v4.Tree.Stmts y5.2.1, ro k_Func v4.Tree.Funcs y5.2.2.1, ro k_i64 v4.Info.Type_ y5.2.2.2.1, ro k_i64 v4.Info.Slot y5.2.2.2.2.1, ro k_i64 v4.Info.Put y5.2.2.2.2.2.1, ro k_i64 v4.Info.Func_ y5.2.2.2.2.2.2.1, ro k_sl_i64 v4.Info.Slots y5.2.2.2.2.2.2.2.1, own k_Proc 52 v4.Code.Procs y5.2.2.2.2.2.2.2.2.1, own k_Instr 54 v4.Code.List_ y5.2.2.2.2.2.2.2.2.2.1, own k_mk_loop 135 v4.loops y5.2.2.2.2.2.2.2.2.2.2.1]) ?_ fun v4 y5 => ?_
      · refine sim_block ?_
        refine sim_ent (e_own k_Proc 52) ?_
        refine sim_ent (e_own k_Instr 54) ?_
        refine sim_ent (e_own k_mk_loop 135) ?_
        refine sim_enter (V := Int × (List S_Proc) × (List S_Instr) × (List S_mk_loop)) (Y := Hd × Hd × Hd) (fun v6 y7 => ⟨[(4, xv 4 0), (6, xv 15 0), (17, lv a0.Funcs.length y_0.2.2.1), (18, iv (a0.Funcs.length : Int)), (19, iv v6.1)], [(4, 35, [.v (.slice none 0 0), .v (.slice none 0 0)]), (15, 99, [lc a0.Exprs.length y_0.1, lc a0.Stmts.length y_0.2.1, lc a0.Funcs.length y_0.2.2.1, lc a1.Type_.length y_1.1, lc a1.Slot.length y_1.2.1, lc a1.Put.length y_1.2.2.1, lc a1.Func_.length y_1.2.2.2.1, lc a1.Slots.length y_1.2.2.2.2.1, lc v6.2.1.length y7.1, lc v6.2.2.1.length y7.2.1, lc v6.2.2.2.length y7.2.2])]⟩) (fun v6 y7 => [ro k_Func a0.Funcs y_0.2.2.1, ro k_Expr a0.Exprs y_0.1, ro k_Stmt a0.Stmts y_0.2.1, ro k_i64 a1.Type_ y_1.1, ro k_i64 a1.Slot y_1.2.1, ro k_i64 a1.Put y_1.2.2.1, ro k_i64 a1.Func_ y_1.2.2.2.1, ro k_sl_i64 a1.Slots y_1.2.2.2.2.1, own k_Proc 52 v6.2.1 y7.1, own k_Instr 54 v6.2.2.1 y7.2.1, own k_mk_loop 135 v6.2.2.2 y7.2.2]) (0, [], [], []) ((none, 0), (none, 0), (none, 0)) [4, 6, 17, 18, 19] [4, 15] [(5, true), (3, true), (4, true), (6, true), (7, true), (8, true), (9, true), (10, true), (2, false), (1, false), (0, false)] (by kernel_rfl) (by kernel_rfl) ?_
        refine sim_loop (V := Int × (List S_Proc) × (List S_Instr) × (List S_mk_loop)) (Y := Hd × Hd × Hd) (fun k s => mk_Make.l0 n a0 a1 k s) (fun v6 y7 => ⟨[(4, xv 4 0), (6, xv 15 0), (17, lv a0.Funcs.length y_0.2.2.1), (18, iv (a0.Funcs.length : Int)), (19, iv v6.1)], [(4, 35, [.v (.slice none 0 0), .v (.slice none 0 0)]), (15, 99, [lc a0.Exprs.length y_0.1, lc a0.Stmts.length y_0.2.1, lc a0.Funcs.length y_0.2.2.1, lc a1.Type_.length y_1.1, lc a1.Slot.length y_1.2.1, lc a1.Put.length y_1.2.2.1, lc a1.Func_.length y_1.2.2.2.1, lc a1.Slots.length y_1.2.2.2.2.1, lc v6.2.1.length y7.1, lc v6.2.2.1.length y7.2.1, lc v6.2.2.2.length y7.2.2])]⟩) (fun v6 y7 => [ro k_Func a0.Funcs y_0.2.2.1, ro k_Expr a0.Exprs y_0.1, ro k_Stmt a0.Stmts y_0.2.1, ro k_i64 a1.Type_ y_1.1, ro k_i64 a1.Slot y_1.2.1, ro k_i64 a1.Put y_1.2.2.1, ro k_i64 a1.Func_ y_1.2.2.2.1, ro k_sl_i64 a1.Slots y_1.2.2.2.2.1, own k_Proc 52 v6.2.1 y7.1, own k_Instr 54 v6.2.2.1 y7.2.1, own k_mk_loop 135 v6.2.2.2 y7.2.2]) n (fun _ => rfl) (fun k1 hk1 v6 y7 => ?_) (0, [], [], []) ((none, 0), (none, 0), (none, 0))
        refine sim_eq (mk_Make.l0.eq_2 _ _ _ _ _) ?_
        refine sim_go [20, 4, 6, 17, 18, 19] ?_
        refine sim_seq ?_
        refine sim_ift ?_ ?_
        · refine sim_skip ?_
          refine of_seq ?_
          refine sim_seq ?_
          refine sim_block ?_
          refine sim_rg [0, 1, 2, 3, 4, 5] ?_
          refine run_go 1 [21, 4, 6, 17, 18, 19] ?_
          refine run_fl (g_idxr 0 rfl 22 (by kernel_rfl) (by kernel_rfl)) fun ⟨H8⟩ => ?_
          refine run_fl (g_ldr 0 rfl S_Func.zero H8 23 true 6 0 (by kernel_rfl) (by kernel_rfl)) fun y9 => ?_
          refine run_go 3 [7, 8, 4, 6, 17, 18, 19] ?_
          refine run_sim ?_
          refine sim_re [0, 1, 2, 3] ?_
          refine run_go 3 [26, 25, 24, 4, 6, 17, 18, 19] ?_
          refine run_callp (fun b v10 h => (mm_function.ok n) b (S_mm.mk a0 a1 (S_Code.mk v6.2.1 v6.2.2.1) v6.2.2.2) v6.1 (a0.Funcs.getD v6.1.toNat S_Func.zero) (y_0.1, y_0.2.1, y_0.2.2.1, y_1.1, y_1.2.1, y_1.2.2.1, y_1.2.2.2.1, y_1.2.2.2.2.1, y7.1, y7.2.1, y7.2.2, ()) y9 v10 h) 15 (some 27) (by kernel_rfl) (fun _ => by kernel_rfl) (fun _ => by kernel_rfl) [(3, true), (4, true), (2, true), (5, true), (6, true), (7, true), (8, true), (9, true), (10, false), (10, false), (10, false), (0, true), (1, true)] (by kernel_rfl) (fun v10 y11 => .tup []) (fun _ _ _ => by kernel_rfl) 99 (fun v10 y11 => [lc a0.Exprs.length y_0.1, lc a0.Stmts.length y_0.2.1, lc a0.Funcs.length y_0.2.2.1, lc a1.Type_.length y_1.1, lc a1.Slot.length y_1.2.1, lc a1.Put.length y_1.2.2.1, lc a1.Func_.length y_1.2.2.2.1, lc a1.Slots.length y_1.2.2.2.2.1, lc v10.1.length y11.1.1, lc v10.2.1.length y11.2.1.1, lc v10.2.2.length y11.2.2.1]) (fun _ _ _ => by kernel_rfl) fun v10 y11 => ?_
          refine run_nil ?_
          refine of_seq ?_
          refine sim_re [0, 1] ?_
          refine run_go 2 [19, 4, 6, 17, 18] ?_
          refine run_nil ?_
          exact at_round ((w64 (v6.1 + 1)), v10.1, v10.2.1, v10.2.2) (y11.1.1, y11.2.1.1, y11.2.2.1) [4, 6, 17, 18, 19] [4, 15] [(5, true), (6, true), (7, true), (8, true), (9, true), (10, true), (11, true), (12, true), (0, false), (0, false), (0, false)] (by kernel_rfl) (by kernel_rfl) rfl
        · refine sim_exit rfl ?_
          exact at_j (S_mm.mk a0 a1 (S_Code.mk v6.2.1 v6.2.2.1) v6.2.2.2) (y_0.1, y_0.2.1, y_0.2.2.1, y_1.1, y_1.2.1, y_1.2.2.1, y_1.2.2.2.1, y_1.2.2.2.2.1, y7.1, y7.2.1, y7.2.2, ()) [4, 6] [4, 15] [(1, true), (2, true), (0, true), (3, true), (4, true), (5, true), (6, true), (7, true), (8, false), (8, false), (8, false)] (by kernel_rfl) (by kernel_rfl) rfl
      exact at_j v4 y5 [4, 6] [4, 15] [(0, true), (1, true), (2, true), (3, true), (4, true), (5, true), (6, true), (7, true), (8, false), (8, false), (8, false)] (by kernel_rfl) (by kernel_rfl) rfl
    refine sim_go [5, 4] ?_
    refine sim_weaken (fun a w => real_freeze (rest := [ro k_Expr v2.Tree.Exprs y3.1, ro k_Stmt v2.Tree.Stmts y3.2.1, ro k_Func v2.Tree.Funcs y3.2.2.1, ro k_i64 v2.Info.Type_ y3.2.2.2.1, ro k_i64 v2.Info.Slot y3.2.2.2.2.1, ro k_i64 v2.Info.Put y3.2.2.2.2.2.1, ro k_i64 v2.Info.Func_ y3.2.2.2.2.2.2.1, ro k_sl_i64 v2.Info.Slots y3.2.2.2.2.2.2.2.1, own k_Instr 54 v2.Code.List_ y3.2.2.2.2.2.2.2.2.2.1, own k_mk_loop 135 v2.loops y3.2.2.2.2.2.2.2.2.2.2.1]) (κ := k_Proc) (E := 52) (xs := v2.Code.Procs) (h := y3.2.2.2.2.2.2.2.2.1) 8 (by kernel_rfl) (pers_of fun _ _ => rfl) a w) ?_
    refine sim_weaken (fun a w => real_freeze (rest := [ro k_Proc v2.Code.Procs y3.2.2.2.2.2.2.2.2.1, ro k_Expr v2.Tree.Exprs y3.1, ro k_Stmt v2.Tree.Stmts y3.2.1, ro k_Func v2.Tree.Funcs y3.2.2.1, ro k_i64 v2.Info.Type_ y3.2.2.2.1, ro k_i64 v2.Info.Slot y3.2.2.2.2.1, ro k_i64 v2.Info.Put y3.2.2.2.2.2.1, ro k_i64 v2.Info.Func_ y3.2.2.2.2.2.2.1, ro k_sl_i64 v2.Info.Slots y3.2.2.2.2.2.2.2.1, own k_mk_loop 135 v2.loops y3.2.2.2.2.2.2.2.2.2.2.1]) (κ := k_Instr) (E := 54) (xs := v2.Code.List_) (h := y3.2.2.2.2.2.2.2.2.2.1) 9 (by kernel_rfl) (pers_of fun _ _ => rfl) a w) ?_
    exact sim_ret (v2.Code, 0) (y3.2.2.2.2.2.2.2.2.1, y3.2.2.2.2.2.2.2.2.2.1, ()) rfl rfl (v := .tup [.agg ([lc v2.Code.Procs.length y3.2.2.2.2.2.2.2.2.1, lc v2.Code.List_.length y3.2.2.2.2.2.2.2.2.2.1]), .s (ic 0)]) (by kernel_rfl) (fun _ => by kernel_rfl) (fun _ _ => pk_out' [(1, true), (0, true)] (by kernel_rfl))
def w11_Made.f (n : Nat) (a0 : ByteArray) : Option (S_Tree × S_c6_Info × S_Code × Bool) :=
  (w7_Right.f n a0).bind fun v1 => if (!v1.2) = true then some (v1.1, S_c6_Info.mk ([]) ([]) ([]) ([]) ([]), S_Code.mk ([]) ([]), false) else (c6_Check.f n v1.1).bind fun v3 => (mk_Make.f n v1.1 v3.1).bind fun v5 => some (v1.1, v3.1, v5.1, (v5.2 == 0))
theorem w11_Made.body : Try.f7.body = some (.seq (.region 0 (rg Try.f7 0) false) (.seq (.region 1 (rg Try.f7 1) false) (.seq (.seq (.region 2 (rg Try.f7 2) false) (.cond (.tmp 19) (.seq (.region 3 (rg Try.f7 3) false) .ret) .skip)) (.seq (.region 4 (rg Try.f7 4) false) (.seq (.region 5 (rg Try.f7 5) false) (.seq (.region 6 (rg Try.f7 6) true) .ret)))))) := by kernel_rfl
def w11_Made.Ok (n : Nat) : Prop := ∀ (a0 : ByteArray) (r : S_Tree × S_c6_Info × S_Code × Bool), w11_Made.f n a0 = some r → Spec Try.prog 7 #[.string a0] [] ((HdN 3) × (HdN 5) × (HdN 2)) (fun x => .tuple #[k_Tree.val r.1 x.1, k_c6_Info.val r.2.1 x.2.1, k_Code.val r.2.2.1 x.2.2, .bool r.2.2.2]) (fun x => [ro k_Expr r.1.Exprs x.1.1, ro k_Stmt r.1.Stmts x.1.2.1, ro k_Func r.1.Funcs x.1.2.2.1, ro k_i64 r.2.1.Type_ x.2.1.1, ro k_i64 r.2.1.Slot x.2.1.2.1, ro k_i64 r.2.1.Put x.2.1.2.2.1, ro k_i64 r.2.1.Func_ x.2.1.2.2.2.1, ro k_sl_i64 r.2.1.Slots x.2.1.2.2.2.2.1, ro k_Proc r.2.2.1.Procs x.2.2.1, ro k_Instr r.2.2.1.List_ x.2.2.2.1])
theorem w11_Made.ok (n : Nat) : w11_Made.Ok n := by
  intro a0 r h
  rw [w11_Made.f.eq_1] at h
  refine spec_go (X := (HdN 3) × (HdN 5) × (HdN 2)) (val := fun r x => .tuple #[k_Tree.val r.1 x.1, k_c6_Info.val r.2.1 x.2.1, k_Code.val r.2.2.1 x.2.2, .bool r.2.2.2]) (ch := fun r x => [ro k_Expr r.1.Exprs x.1.1, ro k_Stmt r.1.Stmts x.1.2.1, ro k_Func r.1.Funcs x.1.2.2.1, ro k_i64 r.2.1.Type_ x.2.1.1, ro k_i64 r.2.1.Slot x.2.1.2.1, ro k_i64 r.2.1.Put x.2.1.2.2.1, ro k_i64 r.2.1.Func_ x.2.1.2.2.2.1, ro k_sl_i64 r.2.1.Slots x.2.1.2.2.2.2.1, ro k_Proc r.2.2.1.Procs x.2.2.1, ro k_Instr r.2.2.1.List_ x.2.2.2.1]) [tv a0] (by kernel_rfl) w11_Made.body h (by kernel_rfl) (fun _ => by kernel_rfl) fun D => ?_
  refine sim_go [4, 3, 2, 0] ?_
  refine sim_rg [0, 1, 2, 3, 4, 5, 6, 7] ?_
  refine run_go 1 [14, 4, 3, 2] ?_
  refine run_call (fun v1 h => (w7_Right.ok n) a0 v1 h) (some 15) (by kernel_rfl) (fun _ => by kernel_rfl) [] (by kernel_rfl) (fun v1 y2 => .tup [.agg (cvs k_Tree v1.1 y2), .s (oc v1.2)]) (fun _ _ _ => by kernel_rfl) fun v1 y2 => ?_
  refine run_go 6 [7, 6, 4, 3, 2] ?_
  refine run_sim ?_
  refine sim_seq ?_
  refine sim_go [19, 6, 4, 3, 2] ?_
  refine sim_ift ?_ ?_
  · refine sim_go [5, 4, 3, 2] ?_
    refine sim_ent (e_ron k_i64 (none, 0)) ?_
    refine sim_ent (e_ron k_i64 (none, 0)) ?_
    refine sim_ent (e_ron k_i64 (none, 0)) ?_
    refine sim_ent (e_ron k_i64 (none, 0)) ?_
    refine sim_ent (e_ron k_sl_i64 (none, 0)) ?_
    refine sim_ent (e_ron k_Proc (none, 0)) ?_
    refine sim_ent (e_ron k_Instr (none, 0)) ?_
    exact sim_ret (v1.1, S_c6_Info.mk ([]) ([]) ([]) ([]) ([]), S_Code.mk ([]) ([]), false) (y2, ((none, 0), (none, 0), (none, 0), (none, 0), (none, 0), ()), ((none, 0), (none, 0), ())) rfl rfl (v := .tup [.agg (cvs k_Tree v1.1 y2), .agg ([.v (.slice none 0 0), .v (.slice none 0 0), .v (.slice none 0 0), .v (.slice none 0 0), .v (.slice none 0 0)]), .agg ([.v (.slice none 0 0), .v (.slice none 0 0)]), .s (oc false)]) (by kernel_rfl) (fun _ => by kernel_rfl) (fun _ _ => pk_out' [(7, true), (8, true), (9, true), (6, true), (5, true), (4, true), (3, true), (2, true), (1, true), (0, true)] (by kernel_rfl))
  · refine sim_skip ?_
    refine of_seq ?_
    refine sim_rg [0, 1, 2, 3, 4, 5, 6, 7, 8, 9] ?_
    refine run_go 1 [24, 6, 4, 3, 2] ?_
    refine run_call (fun v3 h => (c6_Check.ok n) v1.1 y2 v3 h) (some 25) (by kernel_rfl) (fun _ => by kernel_rfl) [(0, true), (1, true), (2, true)] (by kernel_rfl) (fun v3 y4 => .tup [.agg (cvs k_c6_Info v3.1 y4), .s (ic v3.2.1), .s (ic v3.2.2)]) (fun _ _ _ => by kernel_rfl) fun v3 y4 => ?_
    refine run_go 8 [8, 6, 4, 3, 2] ?_
    refine run_sim ?_
    refine sim_rg [0, 1, 2, 3, 4, 5, 6, 7, 8] ?_
    refine run_go 2 [31, 30, 8, 6, 4, 3, 2] ?_
    refine run_call (fun v5 h => (mk_Make.ok n) v1.1 v3.1 y2 y4 v5 h) (some 32) (by kernel_rfl) (fun _ => by kernel_rfl) [(5, true), (6, true), (7, true), (0, true), (1, true), (2, true), (3, true), (4, true)] (by kernel_rfl) (fun v5 y6 => .tup [.agg (cvs k_Code v5.1 y6), .s (ic v5.2)]) (fun _ _ _ => by kernel_rfl) fun v5 y6 => ?_
    refine run_go 6 [12, 11, 8, 6, 4, 3, 2] ?_
    refine run_sim ?_
    refine sim_draw (f1 := []) (f0 := [0, 1, 2]) (fp := [3, 4]) (b1 := [5, 6, 7, 8]) (b0 := [7, 8]) (bm := [(2, 27, [.v (.slice none 0 0), .v (.slice none 0 0), .v (.slice none 0 0)]), (3, 31, [.v (.slice none 0 0), .v (.slice none 0 0), .v (.slice none 0 0), .v (.slice none 0 0), .v (.slice none 0 0)])]) (bs := [(11, 35, (cvs k_Code v5.1 y6)), (8, 64, (cvs k_c6_Info v3.1 y4)), (6, 27, (cvs k_Tree v1.1 y2)), (4, 35, [.v (.slice none 0 0), .v (.slice none 0 0)])]) (Am := []) (As := [ro k_Proc v5.1.Procs y6.1, ro k_Instr v5.1.List_ y6.2.1, ro k_i64 v3.1.Type_ y4.1, ro k_i64 v3.1.Slot y4.2.1, ro k_i64 v3.1.Put y4.2.2.1, ro k_i64 v3.1.Func_ y4.2.2.2.1, ro k_sl_i64 v3.1.Slots y4.2.2.2.2.1, ro k_Expr v1.1.Exprs y2.1, ro k_Stmt v1.1.Stmts y2.2.1, ro k_Func v1.1.Funcs y2.2.2.1]) (.lin [0, 1, 2, 3, 4, 5, 6, 7, 8]) (by kernel_rfl) [2, 3] (by kernel_rfl) [] (by kernel_rfl) ?_
    refine rund_next ?_
    refine rund_demote ?_
    refine rund_steps (st' := ⟨[(39, ov (v5.2 == 0)), (37, .o (.agg (cvs k_Code v5.1 y6))), (36, .o (.agg (cvs k_c6_Info v3.1 y4))), (35, .o (.agg (cvs k_Tree v1.1 y2))), (4, xv 4 0), (3, xv 3 0), (2, xv 2 0)], [(2, 27, [.v (.slice none 0 0), .v (.slice none 0 0), .v (.slice none 0 0)]), (3, 31, [.v (.slice none 0 0), .v (.slice none 0 0), .v (.slice none 0 0), .v (.slice none 0 0), .v (.slice none 0 0)])]⟩) 5 [39, 37, 36, 35, 4, 3, 2] (by kernel_rfl) ?_
    refine rund_step (st' := ⟨[(39, ov (v5.2 == 0)), (37, .o (.agg (cvs k_Code v5.1 y6))), (36, .o (.agg (cvs k_c6_Info v3.1 y4))), (35, .o (.agg (cvs k_Tree v1.1 y2))), (4, xv 4 0), (3, xv 3 0), (2, xv 2 0)], [(2, 27, (cvs k_Tree v1.1 y2)), (3, 31, [.v (.slice none 0 0), .v (.slice none 0 0), .v (.slice none 0 0), .v (.slice none 0 0), .v (.slice none 0 0)])]⟩) (by kernel_rfl) (by kernel_rfl) (by kernel_rfl) ?_
    refine rund_step (st' := ⟨[(39, ov (v5.2 == 0)), (37, .o (.agg (cvs k_Code v5.1 y6))), (36, .o (.agg (cvs k_c6_Info v3.1 y4))), (35, .o (.agg (cvs k_Tree v1.1 y2))), (4, xv 4 0), (3, xv 3 0), (2, xv 2 0)], [(2, 27, (cvs k_Tree v1.1 y2)), (3, 31, (cvs k_c6_Info v3.1 y4))]⟩) (by kernel_rfl) (by kernel_rfl) (by kernel_rfl) ?_
    refine rund_leave (by kernel_rfl) ?_
    refine run_go 2 [5, 4, 3, 2] ?_
    refine run_sim ?_
    exact sim_ret (v1.1, v3.1, v5.1, (v5.2 == 0)) (y2, y4, y6) rfl rfl (v := .tup [.agg (cvs k_Tree v1.1 y2), .agg (cvs k_c6_Info v3.1 y4), .agg (cvs k_Code v5.1 y6), .s (oc (v5.2 == 0))]) (by kernel_rfl) (fun _ => by kernel_rfl) (fun _ _ => pk_out' [(7, true), (8, true), (9, true), (2, true), (3, true), (4, true), (5, true), (6, true), (0, true), (1, true)] (by kernel_rfl))
def w11_awake.f (n : Nat) : Option Bool :=
  (w11_Made.f n (bs [102, 117, 110, 99, 32, 109, 97, 105, 110, 40, 41, 32, 123, 32, 125])).bind fun v1 => (if v1.2.2.2 = true then some ((v1.2.2.1.List_.length : Int) == 1) else some false : Option Bool).bind fun v3 => (if v3 = true then if (0 : Int) ≤ 0 ∧ 0 < (v1.2.2.1.List_.length : Int) then some (((v1.2.2.1.List_.getD (0 : Int).toNat S_Instr.zero).Op) == 27) else none else some false : Option Bool).bind fun v5 => (if v5 = true then some ((v1.2.2.1.Procs.length : Int) == 1) else some false : Option Bool).bind fun v8 => some v8
theorem w11_awake.body : Try.f6.body = some (.seq (.region 0 (rg Try.f6 0) false) (.seq (.region 1 (rg Try.f6 1) false) (.seq (.region 2 (rg Try.f6 2) false) .ret))) := by kernel_rfl
def w11_awake.Ok (n : Nat) : Prop := ∀ (r : Bool), w11_awake.f n  = some r → Spec Try.prog 6 #[] [] (Unit) (fun _ => .bool r) (fun _ => [])
theorem w11_awake.ok (n : Nat) : w11_awake.Ok n := by
  intro r h
  rw [w11_awake.f.eq_1] at h
  refine spec_go (X := Unit) (val := fun r _ => .bool r) (ch := fun r _ => []) [] (by kernel_rfl) w11_awake.body h (by kernel_rfl) (fun _ => by kernel_rfl) fun D => ?_
  refine sim_go [] ?_
  refine sim_rg [0, 1, 2, 3, 4, 5, 6, 7, 8, 9, 10, 11, 12] ?_
  refine run_call (fun v1 h => (w11_Made.ok n) (bs [102, 117, 110, 99, 32, 109, 97, 105, 110, 40, 41, 32, 123, 32, 125]) v1 h) (some 6) (by kernel_rfl) (fun _ => by kernel_rfl) [] (by kernel_rfl) (fun v1 y2 => .tup [.agg (cvs k_Tree v1.1 y2.1), .agg (cvs k_c6_Info v1.2.1 y2.2.1), .agg (cvs k_Code v1.2.2.1 y2.2.2), .s (oc v1.2.2.2)]) (fun _ _ _ => by kernel_rfl) fun v1 y2 => ?_
  refine run_go 12 [4, 3] ?_
  refine run_sim ?_
  refine sim_rg [0, 1, 2, 3, 4, 5, 6, 7, 8, 9, 10, 11, 12, 13, 14, 15, 16, 17, 18, 19, 20, 21] ?_
  refine run_sz (st' := ⟨[(12, ov v1.2.2.2), (3, xv 3 0)], [(3, 35, (cvs k_Code v1.2.2.1 y2.2.2)), (2, 31, (cvs k_c6_Info v1.2.1 y2.2.1)), (1, 27, (cvs k_Tree v1.1 y2.1))]⟩) 2 [12, 3] ?_
  refine run_joinN (V := Bool) (Y := Unit) [2, 3, 4, 5, 6] [7, 8, 9, 10, 11, 12, 13, 14, 15, 16, 17, 18, 19, 20, 21] rfl (fun v3 y4 => ⟨[(3, xv 3 0), (17, ov v3)], [(3, 35, (cvs k_Code v1.2.2.1 y2.2.2))]⟩) (fun v3 y4 => [ro k_Proc v1.2.2.1.Procs y2.2.2.1, ro k_Instr v1.2.2.1.List_ y2.2.2.2.1]) (run_split (fun b => ⟨[(12, ov b), (3, xv 3 0)], [(3, 35, (cvs k_Code v1.2.2.1 y2.2.2)), (2, 31, (cvs k_c6_Info v1.2.1 y2.2.1)), (1, 27, (cvs k_Tree v1.1 y2.1))]⟩) (fun _ => ?_) (fun _ => ?_)) fun v3 y4 => ?_
  · refine run_go 5 [17, 3] ?_
    exact run_atN ((v1.2.2.1.List_.length : Int) == 1) () [3, 17] [3] [(8, true), (9, true)] (by kernel_rfl) (by kernel_rfl) rfl
  · refine run_go 5 [17, 3] ?_
    exact run_atN false () [3, 17] [3] [(8, true), (9, true)] (by kernel_rfl) (by kernel_rfl) rfl
  refine run_sz (st' := ⟨[(18, ov v3), (3, xv 3 0)], [(3, 35, (cvs k_Code v1.2.2.1 y2.2.2))]⟩) 1 [18, 3] ?_
  refine run_joinN (V := Bool) (Y := Unit) [8, 9, 10, 11, 12, 13, 14] [15, 16, 17, 18, 19, 20, 21] rfl (fun v5 y6 => ⟨[(3, xv 3 0), (25, ov v5)], [(3, 35, (cvs k_Code v1.2.2.1 y2.2.2))]⟩) (fun v5 y6 => [ro k_Proc v1.2.2.1.Procs y2.2.2.1, ro k_Instr v1.2.2.1.List_ y2.2.2.2.1]) (run_split (fun b => ⟨[(18, ov b), (3, xv 3 0)], [(3, 35, (cvs k_Code v1.2.2.1 y2.2.2))]⟩) (fun _ => ?_) (fun _ => ?_)) fun v5 y6 => ?_
  · refine run_go 2 [20, 18, 3] ?_
    refine run_fl (g_idxr 1 rfl 21 (by kernel_rfl) (by kernel_rfl)) fun ⟨H7⟩ => ?_
    refine run_go 1 [22, 18, 3] ?_
    refine run_fl (g_ldr 1 rfl S_Instr.zero H7 23 false 1 0 (by kernel_rfl) (by kernel_rfl)) fun _ => ?_
    refine run_go 2 [25, 3] ?_
    exact run_atN (((v1.2.2.1.List_.getD (0 : Int).toNat S_Instr.zero).Op) == 27) () [3, 25] [3] [(0, true), (1, true)] (by kernel_rfl) (by kernel_rfl) rfl
  · refine run_go 7 [25, 3] ?_
    exact run_atN false () [3, 25] [3] [(0, true), (1, true)] (by kernel_rfl) (by kernel_rfl) rfl
  refine run_sz (st' := ⟨[(26, ov v5), (3, xv 3 0)], [(3, 35, (cvs k_Code v1.2.2.1 y2.2.2))]⟩) 1 [26, 3] ?_
  refine run_joinN (V := Bool) (Y := Unit) [16, 17, 18, 19, 20] [21] rfl (fun v8 y9 => ⟨[(31, ov v8)], []⟩) (fun v8 y9 => []) (run_split (fun b => ⟨[(26, ov b), (3, xv 3 0)], [(3, 35, (cvs k_Code v1.2.2.1 y2.2.2))]⟩) (fun _ => ?_) (fun _ => ?_)) fun v8 y9 => ?_
  · refine run_go 5 [31] ?_
    exact run_atN ((v1.2.2.1.Procs.length : Int) == 1) () [31] [] [] (by kernel_rfl) (by kernel_rfl) rfl
  · refine run_go 5 [31] ?_
    exact run_atN false () [31] [] [] (by kernel_rfl) (by kernel_rfl) rfl
  refine run_go 1 [0] ?_
  refine run_sim ?_
  exact sim_ret v8 () rfl rfl (v := ov v8) (by kernel_rfl) (fun _ => by kernel_rfl) (fun _ _ => pk_out' [] (by kernel_rfl))
mutual
def w11_high.l0 (a0 : S_Tree) (a1 : Int) : Nat → (Int × Int) → Option Int
  | 0, _ => none
  | k1 + 1, v20 => if (decide (v20.2 < (((a0.Exprs.getD a1.toNat S_Expr.zero).List_).length : Int))) = true then if (0 : Int) ≤ v20.2 ∧ v20.2 < (((a0.Exprs.getD a1.toNat S_Expr.zero).List_).length : Int) then (w11_high.f k1 a0 (((a0.Exprs.getD a1.toNat S_Expr.zero).List_).getD v20.2.toNat 0)).bind fun v23 => w11_high.l0 a0 a1 k1 ((mx v20.1 (w64 (v23 + v20.2))), (w64 (v20.2 + 1))) else none else some v20.1
def w11_high.f : Nat → S_Tree → Int → Option Int
  | 0, _, _ => none
  | n + 1, a0, a1 => if (0 : Int) ≤ a1 ∧ a1 < (a0.Exprs.length : Int) then jn ((if (((a0.Exprs.getD a1.toNat S_Expr.zero).Kind) == 5) = true then some true else some (((a0.Exprs.getD a1.toNat S_Expr.zero).Kind) == 8) : Option Bool).bind fun v5 => if v5 = true then (w11_high.f n a0 ((a0.Exprs.getD a1.toNat S_Expr.zero).A)).bind fun v7 => some (.inl (some v7)) else (if (((a0.Exprs.getD a1.toNat S_Expr.zero).Kind) == 9) = true then (if (beqS ((a0.Exprs.getD a1.toNat S_Expr.zero).Op) (bs [38, 38])) = true then some true else some (beqS ((a0.Exprs.getD a1.toNat S_Expr.zero).Op) (bs [124, 124])) : Option Bool).bind fun v10 => some v10 else some false : Option Bool).bind fun v8 => if v8 = true then (w11_high.f n a0 ((a0.Exprs.getD a1.toNat S_Expr.zero).A)).bind fun v12 => (w11_high.f n a0 ((a0.Exprs.getD a1.toNat S_Expr.zero).B)).bind fun v13 => some (.inl (some (mx v12 v13))) else if (((a0.Exprs.getD a1.toNat S_Expr.zero).Kind) == 9) = true then (w11_high.f n a0 ((a0.Exprs.getD a1.toNat S_Expr.zero).A)).bind fun v14 => (w11_high.f n a0 ((a0.Exprs.getD a1.toNat S_Expr.zero).B)).bind fun v15 => some (.inl (some (mx v14 (w64 (v15 + 1))))) else if (((a0.Exprs.getD a1.toNat S_Expr.zero).Kind) == 6) = true then ((w11_high.l0 a0 a1 n (1, 0) : Option Int).bind fun v18 => some v18 : Option Int).bind fun v16 => some (.inl (some v16)) else some (.inr ()) : Option (Option Int ⊕ Unit)) fun v3 => some 1 else none
end
theorem w11_high.body : Try.f12.body = some (.seq (.region 0 (rg Try.f12 0) false) (.seq (.region 1 (rg Try.f12 1) false) (.seq (.block 0 (.seq (.region 2 (rg Try.f12 2) false) (.cond (.tmp 13) (.seq (.region 3 (rg Try.f12 3) false) .ret) (.seq (.region 4 (rg Try.f12 4) false) (.cond (.tmp 26) (.seq (.region 5 (rg Try.f12 5) true) .ret) (.seq (.region 6 (rg Try.f12 6) false) (.cond (.tmp 49) (.seq (.region 7 (rg Try.f12 7) true) .ret) (.seq (.region 8 (rg Try.f12 8) false) (.cond (.tmp 63) (.seq (.region 9 (rg Try.f12 9) false) (.seq (.seq (.region 10 (rg Try.f12 10) false) (.block 1 (.loop (.seq (.region 11 (rg Try.f12 11) false) (.seq (.cond (.tmp 71) .skip (.exit 1)) (.seq (.block 2 (.seq (.region 12 (rg Try.f12 12) false) (.region 13 (rg Try.f12 13) true))) (.region 14 (rg Try.f12 14) false))))))) (.seq (.region 15 (rg Try.f12 15) false) .ret))) .skip))))))))) (.seq (.region 16 (rg Try.f12 16) false) .ret)))) := by kernel_rfl
def w11_high.Ok (n : Nat) : Prop := ∀ (a0 : S_Tree) (a1 : Int) (y_0 : HdN 3) (r : Int), w11_high.f n a0 a1 = some r → Spec Try.prog 12 #[k_Tree.val a0 y_0, .int .i64 a1] [ro k_Expr a0.Exprs y_0.1, ro k_Stmt a0.Stmts y_0.2.1, ro k_Func a0.Funcs y_0.2.2.1] (Unit) (fun _ => .int .i64 r) (fun _ => [])
theorem w11_high.step (n : Nat) (ih : ∀ j, j ≤ n → w11_high.Ok j) : w11_high.Ok (n + 1) := by
  intro a0 a1 y_0 r h
  rw [w11_high.f.eq_2] at h
  refine spec_go (X := Unit) (val := fun r _ => .int .i64 r) (ch := fun r _ => []) [.o (.agg (cvs k_Tree a0 y_0)), iv a1] (by kernel_rfl) w11_high.body h (by kernel_rfl) (fun _ => by kernel_rfl) fun D => ?_
  refine sim_go [2, 1] ?_
  refine sim_rg [0, 1, 2, 3, 4, 5, 6] ?_
  refine run_go 3 [10, 9, 2] ?_
  refine run_fl (g_idxr 0 rfl 11 (by kernel_rfl) (by kernel_rfl)) fun ⟨H1⟩ => ?_
  refine run_fl (g_ldr 0 rfl S_Expr.zero H1 12 true 9 0 (by kernel_rfl) (by kernel_rfl)) fun y2 => ?_
  refine run_go 2 [5, 2] ?_
  refine run_sim ?_
  refine sim_joinS (V := Unit) (Y := Unit) (fun v3 y4 => ⟨[], []⟩) (fun v3 y4 => []) ?_ fun v3 y4 => ?_
  · refine sim_block ?_
    refine sim_rg [0, 1, 2, 3, 4, 5, 6, 7, 8] ?_
    refine run_sz (st' := ⟨[(17, ov (((a0.Exprs.getD a1.toNat S_Expr.zero).Kind) == 5)), (5, xv 5 0), (2, xv 2 0)], [(5, 79, (cvs k_Expr (a0.Exprs.getD a1.toNat S_Expr.zero) y2)), (2, 27, (cvs k_Tree a0 y_0))]⟩) 4 [17, 5, 2] ?_
    refine run_joinN (V := Bool) (Y := Unit) [4, 5, 6, 7] [8] rfl (fun v5 y6 => ⟨[(2, xv 2 0), (5, xv 5 0), (21, ov v5)], [(2, 27, (cvs k_Tree a0 y_0)), (5, 79, (cvs k_Expr (a0.Exprs.getD a1.toNat S_Expr.zero) y2))]⟩) (fun v5 y6 => [ro k_Expr a0.Exprs y_0.1, ro k_Stmt a0.Stmts y_0.2.1, ro k_Func a0.Funcs y_0.2.2.1, ro k_i64 ((a0.Exprs.getD a1.toNat S_Expr.zero).List_) y2.1]) (run_split (fun b => ⟨[(17, ov b), (5, xv 5 0), (2, xv 2 0)], [(5, 79, (cvs k_Expr (a0.Exprs.getD a1.toNat S_Expr.zero) y2)), (2, 27, (cvs k_Tree a0 y_0))]⟩) (fun _ => ?_) (fun _ => ?_)) fun v5 y6 => ?_
    · refine run_go 4 [21, 5, 2] ?_
      exact run_atN true () [2, 5, 21] [2, 5] [(1, true), (2, true), (3, true), (0, true)] (by kernel_rfl) (by kernel_rfl) rfl
    · refine run_go 4 [21, 5, 2] ?_
      exact run_atN (((a0.Exprs.getD a1.toNat S_Expr.zero).Kind) == 8) () [2, 5, 21] [2, 5] [(1, true), (2, true), (3, true), (0, true)] (by kernel_rfl) (by kernel_rfl) rfl
    refine run_go 1 [13, 2, 5] ?_
    refine run_sim ?_
    refine sim_ift ?_ ?_
    · refine sim_rg [0, 1, 2, 3, 4] ?_
      refine run_go 3 [24, 22] ?_
      refine run_call (fun v7 h => (ih n (Nat.le_refl _)) a0 ((a0.Exprs.getD a1.toNat S_Expr.zero).A) y_0 v7 h) (some 25) (by kernel_rfl) (fun _ => by kernel_rfl) [(0, true), (1, true), (2, true)] (by kernel_rfl) (fun v7 _ => iv v7) (fun _ _ _ => by kernel_rfl) fun v7 _ => ?_
      refine run_go 1 [4] ?_
      refine run_sim ?_
      exact sim_ret v7 () rfl rfl (v := iv v7) (by kernel_rfl) (fun _ => by kernel_rfl) (fun _ _ => pk_out' [] (by kernel_rfl))
    · refine sim_rg [0, 1, 2, 3, 4, 5, 6, 7, 8, 9, 10, 11, 12, 13] ?_
      refine run_sz (st' := ⟨[(30, ov (((a0.Exprs.getD a1.toNat S_Expr.zero).Kind) == 9)), (2, xv 2 0), (5, xv 5 0)], [(2, 27, (cvs k_Tree a0 y_0)), (5, 79, (cvs k_Expr (a0.Exprs.getD a1.toNat S_Expr.zero) y2))]⟩) 4 [30, 2, 5] ?_
      refine run_joinN (V := Bool) (Y := Unit) [4, 5, 6, 7, 8, 9, 10, 11, 12] [13] rfl (fun v8 y9 => ⟨[(2, xv 2 0), (5, xv 5 0), (39, ov v8)], [(2, 27, (cvs k_Tree a0 y_0)), (5, 79, (cvs k_Expr (a0.Exprs.getD a1.toNat S_Expr.zero) y2))]⟩) (fun v8 y9 => [ro k_Expr a0.Exprs y_0.1, ro k_Stmt a0.Stmts y_0.2.1, ro k_Func a0.Funcs y_0.2.2.1, ro k_i64 ((a0.Exprs.getD a1.toNat S_Expr.zero).List_) y2.1]) (run_split (fun b => ⟨[(30, ov b), (2, xv 2 0), (5, xv 5 0)], [(2, 27, (cvs k_Tree a0 y_0)), (5, 79, (cvs k_Expr (a0.Exprs.getD a1.toNat S_Expr.zero) y2))]⟩) (fun _ => ?_) (fun _ => ?_)) fun v8 y9 => ?_
      · refine run_sz (st' := ⟨[(34, ov (beqS ((a0.Exprs.getD a1.toNat S_Expr.zero).Op) (bs [38, 38]))), (30, ov true), (2, xv 2 0), (5, xv 5 0)], [(2, 27, (cvs k_Tree a0 y_0)), (5, 79, (cvs k_Expr (a0.Exprs.getD a1.toNat S_Expr.zero) y2))]⟩) 4 [34, 30, 2, 5] ?_
        refine run_joinN (V := Bool) (Y := Unit) [8, 9, 10, 11] [12] rfl (fun v10 y11 => ⟨[(2, xv 2 0), (5, xv 5 0), (30, ov true), (38, ov v10)], [(2, 27, (cvs k_Tree a0 y_0)), (5, 79, (cvs k_Expr (a0.Exprs.getD a1.toNat S_Expr.zero) y2))]⟩) (fun v10 y11 => [ro k_Expr a0.Exprs y_0.1, ro k_Stmt a0.Stmts y_0.2.1, ro k_Func a0.Funcs y_0.2.2.1, ro k_i64 ((a0.Exprs.getD a1.toNat S_Expr.zero).List_) y2.1]) (run_split (fun b => ⟨[(34, ov b), (30, ov true), (2, xv 2 0), (5, xv 5 0)], [(2, 27, (cvs k_Tree a0 y_0)), (5, 79, (cvs k_Expr (a0.Exprs.getD a1.toNat S_Expr.zero) y2))]⟩) (fun _ => ?_) (fun _ => ?_)) fun v10 y11 => ?_
        · refine run_go 4 [38, 30, 2, 5] ?_
          exact run_atN true () [2, 5, 30, 38] [2, 5] [(0, true), (1, true), (2, true), (3, true)] (by kernel_rfl) (by kernel_rfl) rfl
        · refine run_go 4 [38, 30, 2, 5] ?_
          exact run_atN (beqS ((a0.Exprs.getD a1.toNat S_Expr.zero).Op) (bs [124, 124])) () [2, 5, 30, 38] [2, 5] [(0, true), (1, true), (2, true), (3, true)] (by kernel_rfl) (by kernel_rfl) rfl
        refine run_go 1 [39, 2, 5] ?_
        exact run_atN v10 () [2, 5, 39] [2, 5] [(0, true), (1, true), (2, true), (3, true)] (by kernel_rfl) (by kernel_rfl) rfl
      · refine run_go 9 [39, 2, 5] ?_
        exact run_atN false () [2, 5, 39] [2, 5] [(0, true), (1, true), (2, true), (3, true)] (by kernel_rfl) (by kernel_rfl) rfl
      refine run_go 1 [26, 2, 5] ?_
      refine run_sim ?_
      refine sim_ift ?_ ?_
      · refine sim_draw (f1 := []) (f0 := [0, 2, 4, 6]) (fp := [1, 5]) (b1 := [3, 7, 8, 9]) (b0 := [7, 8, 9]) (bm := []) (bs := [(2, 27, (cvs k_Tree a0 y_0)), (5, 79, (cvs k_Expr (a0.Exprs.getD a1.toNat S_Expr.zero) y2))]) (Am := []) (As := [ro k_Expr a0.Exprs y_0.1, ro k_Stmt a0.Stmts y_0.2.1, ro k_Func a0.Funcs y_0.2.2.1, ro k_i64 ((a0.Exprs.getD a1.toNat S_Expr.zero).List_) y2.1]) (.lin [0, 1, 2, 4, 5, 6, 3, 7, 8, 9]) (by kernel_rfl) [] (by kernel_rfl) [] (by kernel_rfl) ?_
        refine rund_next ?_
        refine rund_demote ?_
        refine rund_steps (st' := ⟨[(46, iv ((a0.Exprs.getD a1.toNat S_Expr.zero).B)), (44, .o (.agg (cvs k_Tree a0 y_0))), (42, iv ((a0.Exprs.getD a1.toNat S_Expr.zero).A)), (40, .o (.agg (cvs k_Tree a0 y_0)))], []⟩) 6 [46, 44, 42, 40] (by kernel_rfl) ?_
        refine rund_call (fun v12 h => (ih n (Nat.le_refl _)) a0 ((a0.Exprs.getD a1.toNat S_Expr.zero).A) y_0 v12 h) (some 43) (by kernel_rfl) (fun _ => by kernel_rfl) [(0, true), (1, true), (2, true)] (by kernel_rfl) (fun v12 _ => iv v12) (fun _ _ _ => by kernel_rfl) (by kernel_rfl) (by kernel_rfl) fun v12 _ => ?_
        refine rund_A (A' := [ro k_Expr a0.Exprs y_0.1, ro k_Stmt a0.Stmts y_0.2.1, ro k_Func a0.Funcs y_0.2.2.1, ro k_i64 ((a0.Exprs.getD a1.toNat S_Expr.zero).List_) y2.1]) (by kernel_rfl) ?_
        refine rund_leave (by kernel_rfl) ?_
        refine run_call (fun v13 h => (ih n (Nat.le_refl _)) a0 ((a0.Exprs.getD a1.toNat S_Expr.zero).B) y_0 v13 h) (some 47) (by kernel_rfl) (fun _ => by kernel_rfl) [(0, true), (1, true), (2, true)] (by kernel_rfl) (fun v13 _ => iv v13) (fun _ _ _ => by kernel_rfl) fun v13 _ => ?_
        refine run_go 2 [4] ?_
        refine run_sim ?_
        exact sim_ret (mx v12 v13) () rfl rfl (v := iv (mx v12 v13)) (by kernel_rfl) (fun _ => by kernel_rfl) (fun _ _ => pk_out' [] (by kernel_rfl))
      · refine sim_go [49, 2, 5] ?_
        refine sim_ift ?_ ?_
        · refine sim_draw (f1 := []) (f0 := [0, 2, 4, 6]) (fp := [1, 5]) (b1 := [3, 7, 8, 9, 10]) (b0 := [7, 8, 9, 10]) (bm := []) (bs := [(2, 27, (cvs k_Tree a0 y_0)), (5, 79, (cvs k_Expr (a0.Exprs.getD a1.toNat S_Expr.zero) y2))]) (Am := []) (As := [ro k_Expr a0.Exprs y_0.1, ro k_Stmt a0.Stmts y_0.2.1, ro k_Func a0.Funcs y_0.2.2.1, ro k_i64 ((a0.Exprs.getD a1.toNat S_Expr.zero).List_) y2.1]) (.lin [0, 1, 2, 4, 5, 6, 3, 7, 8, 9, 10]) (by kernel_rfl) [] (by kernel_rfl) [] (by kernel_rfl) ?_
          refine rund_next ?_
          refine rund_demote ?_
          refine rund_steps (st' := ⟨[(59, iv ((a0.Exprs.getD a1.toNat S_Expr.zero).B)), (57, .o (.agg (cvs k_Tree a0 y_0))), (55, iv ((a0.Exprs.getD a1.toNat S_Expr.zero).A)), (53, .o (.agg (cvs k_Tree a0 y_0)))], []⟩) 6 [59, 57, 55, 53] (by kernel_rfl) ?_
          refine rund_call (fun v14 h => (ih n (Nat.le_refl _)) a0 ((a0.Exprs.getD a1.toNat S_Expr.zero).A) y_0 v14 h) (some 56) (by kernel_rfl) (fun _ => by kernel_rfl) [(0, true), (1, true), (2, true)] (by kernel_rfl) (fun v14 _ => iv v14) (fun _ _ _ => by kernel_rfl) (by kernel_rfl) (by kernel_rfl) fun v14 _ => ?_
          refine rund_A (A' := [ro k_Expr a0.Exprs y_0.1, ro k_Stmt a0.Stmts y_0.2.1, ro k_Func a0.Funcs y_0.2.2.1, ro k_i64 ((a0.Exprs.getD a1.toNat S_Expr.zero).List_) y2.1]) (by kernel_rfl) ?_
          refine rund_leave (by kernel_rfl) ?_
          refine run_call (fun v15 h => (ih n (Nat.le_refl _)) a0 ((a0.Exprs.getD a1.toNat S_Expr.zero).B) y_0 v15 h) (some 60) (by kernel_rfl) (fun _ => by kernel_rfl) [(0, true), (1, true), (2, true)] (by kernel_rfl) (fun v15 _ => iv v15) (fun _ _ _ => by kernel_rfl) fun v15 _ => ?_
          refine run_go 3 [4] ?_
          refine run_sim ?_
          exact sim_ret (mx v14 (w64 (v15 + 1))) () rfl rfl (v := iv (mx v14 (w64 (v15 + 1)))) (by kernel_rfl) (fun _ => by kernel_rfl) (fun _ _ => pk_out' [] (by kernel_rfl))
        · refine sim_go [63, 2, 5] ?_
          refine sim_ift ?_ ?_
          · refine sim_gs (st' := ⟨[(6, iv 1), (2, xv 2 0), (5, xv 5 0)], [(2, 27, (cvs k_Tree a0 y_0)), (5, 79, (cvs k_Expr (a0.Exprs.getD a1.toNat S_Expr.zero) y2))]⟩) [6, 2, 5] ?_
            refine sim_joinN (V := Int) (Y := Unit) (fun v16 y17 => ⟨[(6, iv v16)], []⟩) (fun v16 y17 => []) ?_ fun v16 y17 => ?_
            · refine sim_gs (st' := ⟨[(70, iv 0), (69, iv (((a0.Exprs.getD a1.toNat S_Expr.zero).List_).length : Int)), (6, iv 1), (2, xv 2 0), (5, xv 5 0)], [(2, 27, (cvs k_Tree a0 y_0)), (5, 79, (cvs k_Expr (a0.Exprs.getD a1.toNat S_Expr.zero) y2))]⟩) [70, 69, 6, 2, 5] ?_
              refine sim_joinTN (V := Int) (Y := Unit) (fun v18 y19 => ⟨[(6, iv v18)], []⟩) (fun v18 y19 => []) ?_ fun v18 y19 => ?_
              · refine sim_block ?_
                refine sim_enter (V := Int × Int) (Y := Unit) (fun v20 y21 => ⟨[(2, xv 2 0), (5, xv 5 0), (6, iv v20.1), (69, iv (((a0.Exprs.getD a1.toNat S_Expr.zero).List_).length : Int)), (70, iv v20.2)], [(2, 27, (cvs k_Tree a0 y_0)), (5, 79, (cvs k_Expr (a0.Exprs.getD a1.toNat S_Expr.zero) y2))]⟩) (fun v20 y21 => [ro k_Expr a0.Exprs y_0.1, ro k_Stmt a0.Stmts y_0.2.1, ro k_Func a0.Funcs y_0.2.2.1, ro k_i64 ((a0.Exprs.getD a1.toNat S_Expr.zero).List_) y2.1]) (1, 0) () [2, 5, 6, 69, 70] [2, 5] [(0, true), (1, true), (2, true), (3, true)] (by kernel_rfl) (by kernel_rfl) ?_
                refine sim_loop (V := Int × Int) (Y := Unit) (fun k s => w11_high.l0 a0 a1 k s) (fun v20 y21 => ⟨[(2, xv 2 0), (5, xv 5 0), (6, iv v20.1), (69, iv (((a0.Exprs.getD a1.toNat S_Expr.zero).List_).length : Int)), (70, iv v20.2)], [(2, 27, (cvs k_Tree a0 y_0)), (5, 79, (cvs k_Expr (a0.Exprs.getD a1.toNat S_Expr.zero) y2))]⟩) (fun v20 y21 => [ro k_Expr a0.Exprs y_0.1, ro k_Stmt a0.Stmts y_0.2.1, ro k_Func a0.Funcs y_0.2.2.1, ro k_i64 ((a0.Exprs.getD a1.toNat S_Expr.zero).List_) y2.1]) n (fun _ => rfl) (fun k1 hk1 v20 y21 => ?_) (1, 0) ()
                refine sim_eq (w11_high.l0.eq_2 _ _ _ _) ?_
                refine sim_go [71, 2, 5, 6, 69, 70] ?_
                refine sim_seq ?_
                refine sim_ift ?_ ?_
                · refine sim_skip ?_
                  refine of_seq ?_
                  refine sim_seq ?_
                  refine sim_block ?_
                  refine sim_go [7, 2, 5, 6, 69, 70] ?_
                  refine sim_draw_end (f1 := [5, 6]) (f0 := [1, 3]) (fp := [0, 2, 4, 8]) (b1 := [7, 9, 10, 11]) (b0 := [7, 9, 10, 11]) (bm := []) (bs := [(2, 27, (cvs k_Tree a0 y_0)), (5, 79, (cvs k_Expr (a0.Exprs.getD a1.toNat S_Expr.zero) y2))]) (Am := []) (As := [ro k_Expr a0.Exprs y_0.1, ro k_Stmt a0.Stmts y_0.2.1, ro k_Func a0.Funcs y_0.2.2.1, ro k_i64 ((a0.Exprs.getD a1.toNat S_Expr.zero).List_) y2.1]) (.lin [0, 1, 2, 3, 4, 5, 6, 8, 7, 9, 10, 11]) (by kernel_rfl) [] (by kernel_rfl) [] (by kernel_rfl) ?_
                  refine rund_next ?_
                  refine rund_steps (st' := ⟨[(77, iv v20.2), (76, lv ((a0.Exprs.getD a1.toNat S_Expr.zero).List_).length y2.1), (74, .o (.agg (cvs k_Tree a0 y_0))), (73, iv v20.1), (7, iv v20.2), (2, xv 2 0), (5, xv 5 0), (69, iv (((a0.Exprs.getD a1.toNat S_Expr.zero).List_).length : Int)), (70, iv v20.2)], []⟩) 5 [77, 76, 74, 73, 7, 2, 5, 69, 70] (by kernel_rfl) ?_
                  refine rund_fl (by kernel_rfl) (g_idxr 3 rfl 78 (by kernel_rfl) (by kernel_rfl)) fun ⟨H22⟩ => ?_
                  refine rund_fl (by kernel_rfl) (g_ldr 3 rfl 0 H22 79 false 1 0 (by kernel_rfl) (by kernel_rfl)) fun _ => ?_
                  refine rund_steps (st' := ⟨[(81, iv v20.2), (79, iv (((a0.Exprs.getD a1.toNat S_Expr.zero).List_).getD v20.2.toNat 0)), (74, .o (.agg (cvs k_Tree a0 y_0))), (73, iv v20.1), (2, xv 2 0), (5, xv 5 0), (69, iv (((a0.Exprs.getD a1.toNat S_Expr.zero).List_).length : Int)), (70, iv v20.2)], []⟩) 1 [81, 79, 74, 73, 2, 5, 69, 70] (by kernel_rfl) ?_
                  refine rund_leave (by kernel_rfl) ?_
                  refine run_call (fun v23 h => (ih k1 (Nat.le_trans (Nat.le_of_lt hk1) (Nat.le_refl _))) a0 (((a0.Exprs.getD a1.toNat S_Expr.zero).List_).getD v20.2.toNat 0) y_0 v23 h) (some 80) (by kernel_rfl) (fun _ => by kernel_rfl) [(0, true), (1, true), (2, true)] (by kernel_rfl) (fun v23 _ => iv v23) (fun _ _ _ => by kernel_rfl) fun v23 _ => ?_
                  refine run_go 3 [6, 2, 5, 69, 70] ?_
                  refine run_nil ?_
                  refine of_seq ?_
                  refine sim_re [0, 1] ?_
                  refine run_go 2 [70, 6, 2, 5, 69] ?_
                  refine run_nil ?_
                  exact at_round ((mx v20.1 (w64 (v23 + v20.2))), (w64 (v20.2 + 1))) () [2, 5, 6, 69, 70] [2, 5] [(0, true), (1, true), (2, true), (3, true)] (by kernel_rfl) (by kernel_rfl) rfl
                · refine sim_exit rfl ?_
                  exact at_j v20.1 () [6] [] [] (by kernel_rfl) (by kernel_rfl) rfl
              exact at_j v18 () [6] [] [] (by kernel_rfl) (by kernel_rfl) rfl
            refine sim_go [4] ?_
            exact sim_ret v16 () rfl rfl (v := iv v16) (by kernel_rfl) (fun _ => by kernel_rfl) (fun _ _ => pk_out' [] (by kernel_rfl))
          · refine sim_skip ?_
            exact at_j () () [] [] [] (by kernel_rfl) (by kernel_rfl) rfl
  refine sim_go [4] ?_
  exact sim_ret 1 () rfl rfl (v := iv 1) (by kernel_rfl) (fun _ => by kernel_rfl) (fun _ _ => pk_out' [] (by kernel_rfl))
theorem w11_high.all (n : Nat) : w11_high.Ok n := by
  induction n using Nat.strongRecOn with
  | _ n ih =>
    cases n with
    | zero => exact (fun _ _ _ _ h => by rw [w11_high.f.eq_1] at h; cases h)
    | succ n => exact (w11_high.step n fun j hj => ih j (Nat.lt_succ_of_le hj))
theorem w11_high.ok (n : Nat) : w11_high.Ok n := (w11_high.all n)
def w11_MakeHighs.l1 (n : Nat) (v2 : S_Tree × Bool) : Nat → (Int × Int) → Option Int
  | 0, _ => none
  | k1 + 1, v17 => if (decide (v17.2 < (v2.1.Stmts.length : Int))) = true then (if (0 : Int) ≤ v17.2 ∧ v17.2 < (v2.1.Stmts.length : Int) then if (((v2.1.Stmts.getD v17.2.toNat S_Stmt.zero).Kind) == 4) = true then (w11_high.f n v2.1 ((v2.1.Stmts.getD v17.2.toNat S_Stmt.zero).B)).bind fun v23 => some (mx v17.1 (w64 (1 + v23))) else some v17.1 else none : Option Int).bind fun v19 => w11_MakeHighs.l1 n v2 k1 (v19, (w64 (v17.2 + 1))) else some v17.1
def w11_MakeHighs.l0 (n : Nat) (v2 : S_Tree × Bool) : Nat → (Int × Int) → Option (Option (Option Bool ⊕ Int) ⊕ Int)
  | 0, _ => none
  | k1 + 1, v8 => if (decide (v8.2 < (v2.1.Exprs.length : Int))) = true then (mk_High.f n v2.1 v8.2).bind fun v10 => (w11_high.f n v2.1 v8.2).bind fun v11 => if (v10 != v11) = true then some (.inl (some (.inl (some false)))) else (w11_high.f n v2.1 v8.2).bind fun v12 => w11_MakeHighs.l0 n v2 k1 ((mx v8.1 v12), (w64 (v8.2 + 1))) else some (.inr v8.1)
def w11_MakeHighs.f (n : Nat) (a0 : ByteArray) : Option Bool :=
  (w11_awake.f n).bind fun v1 => if (!v1) = true then some false else (w7_Right.f n a0).bind fun v2 => if (!v2.2) = true then some true else jn (jn (w11_MakeHighs.l0 n v2 n (0, 0) : Option (Option (Option Bool ⊕ Int) ⊕ Int)) fun v6 => some (.inr v6) : Option (Option Bool ⊕ Int)) fun v4 => ((w11_MakeHighs.l1 n v2 n (v4, 0) : Option Int).bind fun v15 => some v15 : Option Int).bind fun v13 => (w11_Made.f n a0).bind fun v24 => some (v24.2.2.2 == (decide (v13 ≤ 200)))
theorem w11_MakeHighs.body : Try.f4.body = some (.seq (.region 0 (rg Try.f4 0) false) (.seq (.seq (.region 1 (rg Try.f4 1) false) (.cond (.tmp 14) (.seq (.region 2 (rg Try.f4 2) false) .ret) .skip)) (.seq (.region 3 (rg Try.f4 3) false) (.seq (.seq (.region 4 (rg Try.f4 4) false) (.cond (.tmp 21) (.seq (.region 5 (rg Try.f4 5) false) .ret) .skip)) (.seq (.region 6 (rg Try.f4 6) false) (.seq (.seq (.region 7 (rg Try.f4 7) false) (.block 0 (.loop (.seq (.region 8 (rg Try.f4 8) false) (.seq (.cond (.tmp 26) .skip (.exit 0)) (.seq (.block 1 (.seq (.region 9 (rg Try.f4 9) false) (.seq (.seq (.region 10 (rg Try.f4 10) true) (.cond (.tmp 34) (.seq (.region 11 (rg Try.f4 11) false) .ret) .skip)) (.region 12 (rg Try.f4 12) false)))) (.region 13 (rg Try.f4 13) false))))))) (.seq (.seq (.region 14 (rg Try.f4 14) false) (.block 2 (.loop (.seq (.region 15 (rg Try.f4 15) false) (.seq (.cond (.tmp 45) .skip (.exit 2)) (.seq (.block 3 (.seq (.region 16 (rg Try.f4 16) false) (.seq (.region 17 (rg Try.f4 17) false) (.cond (.tmp 50) (.region 18 (rg Try.f4 18) false) .skip)))) (.region 19 (rg Try.f4 19) false))))))) (.seq (.region 20 (rg Try.f4 20) false) (.seq (.region 21 (rg Try.f4 21) false) .ret))))))))) := by kernel_rfl
def w11_MakeHighs.Ok (n : Nat) : Prop := ∀ (a0 : ByteArray) (r : Bool), w11_MakeHighs.f n a0 = some r → Spec Try.prog 4 #[.string a0] [] (Unit) (fun _ => .bool r) (fun _ => [])
theorem w11_MakeHighs.ok (n : Nat) : w11_MakeHighs.Ok n := by
  intro a0 r h
  rw [w11_MakeHighs.f.eq_1] at h
  refine spec_go (X := Unit) (val := fun r _ => .bool r) (ch := fun r _ => []) [tv a0] (by kernel_rfl) w11_MakeHighs.body h (by kernel_rfl) (fun _ => by kernel_rfl) fun D => ?_
  refine sim_go [0] ?_
  refine sim_seq ?_
  refine sim_rg [0, 1] ?_
  refine run_call (fun v1 h => (w11_awake.ok n)  v1 h) (some 13) (by kernel_rfl) (fun _ => by kernel_rfl) [] (by kernel_rfl) (fun v1 _ => ov v1) (fun _ _ _ => by kernel_rfl) fun v1 _ => ?_
  refine run_go 1 [14, 0] ?_
  refine run_sim ?_
  refine sim_ift ?_ ?_
  · refine sim_go [2] ?_
    exact sim_ret false () rfl rfl (v := ov false) (by kernel_rfl) (fun _ => by kernel_rfl) (fun _ _ => pk_out' [] (by kernel_rfl))
  · refine sim_skip ?_
    refine of_seq ?_
    refine sim_rg [0, 1, 2, 3, 4, 5, 6, 7] ?_
    refine run_go 1 [16, 0] ?_
    refine run_call (fun v2 h => (w7_Right.ok n) a0 v2 h) (some 17) (by kernel_rfl) (fun _ => by kernel_rfl) [] (by kernel_rfl) (fun v2 y3 => .tup [.agg (cvs k_Tree v2.1 y3), .s (oc v2.2)]) (fun _ _ _ => by kernel_rfl) fun v2 y3 => ?_
    refine run_go 6 [4, 3, 0] ?_
    refine run_sim ?_
    refine sim_seq ?_
    refine sim_go [21, 3, 0] ?_
    refine sim_ift ?_ ?_
    · refine sim_go [2] ?_
      exact sim_ret true () rfl rfl (v := ov true) (by kernel_rfl) (fun _ => by kernel_rfl) (fun _ _ => pk_out' [] (by kernel_rfl))
    · refine sim_skip ?_
      refine of_seq ?_
      refine sim_gs (st' := ⟨[(5, iv 0), (3, xv 3 0), (0, tv a0)], [(3, 27, (cvs k_Tree v2.1 y3))]⟩) [5, 3, 0] ?_
      refine sim_joinS (V := Int) (Y := Unit) (fun v4 y5 => ⟨[(0, tv a0), (3, xv 3 0), (5, iv v4)], [(3, 27, (cvs k_Tree v2.1 y3))]⟩) (fun v4 y5 => [ro k_Expr v2.1.Exprs y3.1, ro k_Stmt v2.1.Stmts y3.2.1, ro k_Func v2.1.Funcs y3.2.2.1]) ?_ fun v4 y5 => ?_
      · refine sim_gs (st' := ⟨[(25, iv 0), (24, iv (v2.1.Exprs.length : Int)), (5, iv 0), (3, xv 3 0), (0, tv a0)], [(3, 27, (cvs k_Tree v2.1 y3))]⟩) [25, 24, 5, 3, 0] ?_
        refine sim_joinTS (V := Int) (Y := Unit) (fun v6 y7 => ⟨[(0, tv a0), (3, xv 3 0), (5, iv v6)], [(3, 27, (cvs k_Tree v2.1 y3))]⟩) (fun v6 y7 => [ro k_Expr v2.1.Exprs y3.1, ro k_Stmt v2.1.Stmts y3.2.1, ro k_Func v2.1.Funcs y3.2.2.1]) ?_ fun v6 y7 => ?_
        · refine sim_block ?_
          refine sim_enter (V := Int × Int) (Y := Unit) (fun v8 y9 => ⟨[(0, tv a0), (3, xv 3 0), (5, iv v8.1), (24, iv (v2.1.Exprs.length : Int)), (25, iv v8.2)], [(3, 27, (cvs k_Tree v2.1 y3))]⟩) (fun v8 y9 => [ro k_Expr v2.1.Exprs y3.1, ro k_Stmt v2.1.Stmts y3.2.1, ro k_Func v2.1.Funcs y3.2.2.1]) (0, 0) () [0, 3, 5, 24, 25] [3] [(0, true), (1, true), (2, true)] (by kernel_rfl) (by kernel_rfl) ?_
          refine sim_loop (V := Int × Int) (Y := Unit) (fun k s => w11_MakeHighs.l0 n v2 k s) (fun v8 y9 => ⟨[(0, tv a0), (3, xv 3 0), (5, iv v8.1), (24, iv (v2.1.Exprs.length : Int)), (25, iv v8.2)], [(3, 27, (cvs k_Tree v2.1 y3))]⟩) (fun v8 y9 => [ro k_Expr v2.1.Exprs y3.1, ro k_Stmt v2.1.Stmts y3.2.1, ro k_Func v2.1.Funcs y3.2.2.1]) n (fun _ => rfl) (fun k1 hk1 v8 y9 => ?_) (0, 0) ()
          refine sim_eq (w11_MakeHighs.l0.eq_2 _ _ _ _) ?_
          refine sim_go [26, 0, 3, 5, 24, 25] ?_
          refine sim_seq ?_
          refine sim_ift ?_ ?_
          · refine sim_skip ?_
            refine of_seq ?_
            refine sim_seq ?_
            refine sim_block ?_
            refine sim_go [6, 0, 3, 5, 24, 25] ?_
            refine sim_seq ?_
            refine sim_draw (f1 := []) (f0 := [0, 3]) (fp := [1, 4]) (b1 := [2, 5, 6]) (b0 := [5, 6]) (bm := []) (bs := [(3, 27, (cvs k_Tree v2.1 y3))]) (Am := []) (As := [ro k_Expr v2.1.Exprs y3.1, ro k_Stmt v2.1.Stmts y3.2.1, ro k_Func v2.1.Funcs y3.2.2.1]) (.lin [0, 1, 3, 4, 2, 5, 6]) (by kernel_rfl) [] (by kernel_rfl) [] (by kernel_rfl) ?_
            refine rund_next ?_
            refine rund_demote ?_
            refine rund_steps (st' := ⟨[(32, iv v8.2), (31, .o (.agg (cvs k_Tree v2.1 y3))), (29, iv v8.2), (28, .o (.agg (cvs k_Tree v2.1 y3))), (6, iv v8.2), (0, tv a0), (3, xv 3 0), (5, iv v8.1), (24, iv (v2.1.Exprs.length : Int)), (25, iv v8.2)], []⟩) 4 [32, 31, 29, 28, 6, 0, 3, 5, 24, 25] (by kernel_rfl) ?_
            refine rund_call (fun v10 h => (mk_High.ok n) v2.1 v8.2 y3 v10 h) (some 30) (by kernel_rfl) (fun _ => by kernel_rfl) [(0, true), (1, true), (2, true)] (by kernel_rfl) (fun v10 _ => iv v10) (fun _ _ _ => by kernel_rfl) (by kernel_rfl) (by kernel_rfl) fun v10 _ => ?_
            refine rund_A (A' := [ro k_Expr v2.1.Exprs y3.1, ro k_Stmt v2.1.Stmts y3.2.1, ro k_Func v2.1.Funcs y3.2.2.1]) (by kernel_rfl) ?_
            refine rund_leave (by kernel_rfl) ?_
            refine run_call (fun v11 h => (w11_high.ok n) v2.1 v8.2 y3 v11 h) (some 33) (by kernel_rfl) (fun _ => by kernel_rfl) [(0, true), (1, true), (2, true)] (by kernel_rfl) (fun v11 _ => iv v11) (fun _ _ _ => by kernel_rfl) fun v11 _ => ?_
            refine run_go 1 [34, 6, 0, 3, 5, 24, 25] ?_
            refine run_sim ?_
            refine sim_ift ?_ ?_
            · refine sim_go [2] ?_
              exact sim_ret false () rfl rfl (v := ov false) (by kernel_rfl) (fun _ => by kernel_rfl) (fun _ _ => pk_out' [] (by kernel_rfl))
            · refine sim_skip ?_
              refine of_seq ?_
              refine sim_re [0, 1, 2, 3, 4, 5] ?_
              refine run_go 3 [37, 36, 35, 0, 3, 24, 25] ?_
              refine run_call (fun v12 h => (w11_high.ok n) v2.1 v8.2 y3 v12 h) (some 38) (by kernel_rfl) (fun _ => by kernel_rfl) [(0, true), (1, true), (2, true)] (by kernel_rfl) (fun v12 _ => iv v12) (fun _ _ _ => by kernel_rfl) fun v12 _ => ?_
              refine run_go 2 [5, 0, 3, 24, 25] ?_
              refine run_nil ?_
              refine of_seq ?_
              refine sim_re [0, 1] ?_
              refine run_go 2 [25, 5, 0, 3, 24] ?_
              refine run_nil ?_
              exact at_round ((mx v8.1 v12), (w64 (v8.2 + 1))) () [0, 3, 5, 24, 25] [3] [(0, true), (1, true), (2, true)] (by kernel_rfl) (by kernel_rfl) rfl
          · refine sim_exit rfl ?_
            exact at_j v8.1 () [0, 3, 5] [3] [(0, true), (1, true), (2, true)] (by kernel_rfl) (by kernel_rfl) rfl
        exact at_j v6 () [0, 3, 5] [3] [(0, true), (1, true), (2, true)] (by kernel_rfl) (by kernel_rfl) rfl
      refine sim_joinN (V := Int) (Y := Unit) (fun v13 y14 => ⟨[(0, tv a0), (5, iv v13)], []⟩) (fun v13 y14 => []) ?_ fun v13 y14 => ?_
      · refine sim_gs (st' := ⟨[(44, iv 0), (43, iv (v2.1.Stmts.length : Int)), (42, lv v2.1.Stmts.length y3.2.1), (0, tv a0), (3, xv 3 0), (5, iv v4)], [(3, 27, (cvs k_Tree v2.1 y3))]⟩) [44, 43, 42, 0, 3, 5] ?_
        refine sim_joinTN (V := Int) (Y := Unit) (fun v15 y16 => ⟨[(0, tv a0), (5, iv v15)], []⟩) (fun v15 y16 => []) ?_ fun v15 y16 => ?_
        · refine sim_block ?_
          refine sim_enter (V := Int × Int) (Y := Unit) (fun v17 y18 => ⟨[(0, tv a0), (3, xv 3 0), (5, iv v17.1), (42, lv v2.1.Stmts.length y3.2.1), (43, iv (v2.1.Stmts.length : Int)), (44, iv v17.2)], [(3, 27, (cvs k_Tree v2.1 y3))]⟩) (fun v17 y18 => [ro k_Stmt v2.1.Stmts y3.2.1, ro k_Expr v2.1.Exprs y3.1, ro k_Func v2.1.Funcs y3.2.2.1]) (v4, 0) () [0, 3, 5, 42, 43, 44] [3] [(1, true), (0, true), (2, true)] (by kernel_rfl) (by kernel_rfl) ?_
          refine sim_loop (V := Int × Int) (Y := Unit) (fun k s => w11_MakeHighs.l1 n v2 k s) (fun v17 y18 => ⟨[(0, tv a0), (3, xv 3 0), (5, iv v17.1), (42, lv v2.1.Stmts.length y3.2.1), (43, iv (v2.1.Stmts.length : Int)), (44, iv v17.2)], [(3, 27, (cvs k_Tree v2.1 y3))]⟩) (fun v17 y18 => [ro k_Stmt v2.1.Stmts y3.2.1, ro k_Expr v2.1.Exprs y3.1, ro k_Func v2.1.Funcs y3.2.2.1]) n (fun _ => rfl) (fun k1 hk1 v17 y18 => ?_) (v4, 0) ()
          refine sim_eq (w11_MakeHighs.l1.eq_2 _ _ _ _) ?_
          refine sim_go [45, 0, 3, 5, 42, 43, 44] ?_
          refine sim_seq ?_
          refine sim_ift ?_ ?_
          · refine sim_skip ?_
            refine of_seq ?_
            refine sim_joinN (V := Int) (Y := Unit) (fun v19 y20 => ⟨[(0, tv a0), (3, xv 3 0), (5, iv v19), (42, lv v2.1.Stmts.length y3.2.1), (43, iv (v2.1.Stmts.length : Int)), (44, iv v17.2)], [(3, 27, (cvs k_Tree v2.1 y3))]⟩) (fun v19 y20 => [ro k_Stmt v2.1.Stmts y3.2.1, ro k_Expr v2.1.Exprs y3.1, ro k_Func v2.1.Funcs y3.2.2.1]) ?_ fun v19 y20 => ?_
            · refine sim_block ?_
              refine sim_rg [0, 1, 2, 3] ?_
              refine run_fl (g_idxr 0 rfl 46 (by kernel_rfl) (by kernel_rfl)) fun ⟨H21⟩ => ?_
              refine run_fl (g_ldr 0 rfl S_Stmt.zero H21 47 true 9 0 (by kernel_rfl) (by kernel_rfl)) fun y22 => ?_
              refine run_go 2 [8, 0, 3, 5, 42, 43, 44] ?_
              refine run_sim ?_
              refine sim_go [50, 8, 0, 3, 5, 42, 43, 44] ?_
              refine sim_ift ?_ ?_
              · refine sim_re [0, 1, 2, 3, 4, 5, 6, 7] ?_
                refine run_go 4 [54, 52, 51, 0, 3, 42, 43, 44] ?_
                refine run_call (fun v23 h => (w11_high.ok n) v2.1 ((v2.1.Stmts.getD v17.2.toNat S_Stmt.zero).B) y3 v23 h) (some 55) (by kernel_rfl) (fun _ => by kernel_rfl) [(3, true), (2, true), (4, true)] (by kernel_rfl) (fun v23 _ => iv v23) (fun _ _ _ => by kernel_rfl) fun v23 _ => ?_
                refine run_go 3 [5, 0, 3, 42, 43, 44] ?_
                refine run_nil ?_
                exact at_j (mx v17.1 (w64 (1 + v23))) () [0, 3, 5, 42, 43, 44] [3] [(2, true), (3, true), (4, true)] (by kernel_rfl) (by kernel_rfl) rfl
              · refine sim_skip ?_
                exact at_j v17.1 () [0, 3, 5, 42, 43, 44] [3] [(2, true), (3, true), (4, true)] (by kernel_rfl) (by kernel_rfl) rfl
            refine sim_re [0, 1] ?_
            refine run_go 2 [44, 0, 3, 5, 42, 43] ?_
            refine run_nil ?_
            exact at_round (v19, (w64 (v17.2 + 1))) () [0, 3, 5, 42, 43, 44] [3] [(0, true), (1, true), (2, true)] (by kernel_rfl) (by kernel_rfl) rfl
          · refine sim_exit rfl ?_
            exact at_j v17.1 () [0, 5] [] [] (by kernel_rfl) (by kernel_rfl) rfl
        exact at_j v15 () [0, 5] [] [] (by kernel_rfl) (by kernel_rfl) rfl
      refine sim_rg [0, 1, 2, 3, 4, 5, 6, 7, 8, 9, 10, 11, 12, 13] ?_
      refine run_go 1 [60, 5] ?_
      refine run_call (fun v24 h => (w11_Made.ok n) a0 v24 h) (some 61) (by kernel_rfl) (fun _ => by kernel_rfl) [] (by kernel_rfl) (fun v24 y25 => .tup [.agg (cvs k_Tree v24.1 y25.1), .agg (cvs k_c6_Info v24.2.1 y25.2.1), .agg (cvs k_Code v24.2.2.1 y25.2.2), .s (oc v24.2.2.2)]) (fun _ _ _ => by kernel_rfl) fun v24 y25 => ?_
      refine run_go 12 [12, 5] ?_
      refine run_sim ?_
      refine sim_go [2] ?_
      exact sim_ret (v24.2.2.2 == (decide (v13 ≤ 200))) () rfl rfl (v := ov (v24.2.2.2 == (decide (v13 ≤ 200)))) (by kernel_rfl) (fun _ => by kernel_rfl) (fun _ _ => pk_out' [] (by kernel_rfl))
def h10_IsName.f (n : Nat) (a0 : ByteArray) : Option Bool :=
  (t2_All.f n a0).bind fun v1 => (if (v1.2.2 == 0) = true then some ((v1.1.length : Int) == 2) else some false : Option Bool).bind fun v3 => (if v3 = true then if (0 : Int) ≤ 0 ∧ 0 < (v1.1.length : Int) then some (((v1.1.getD (0 : Int).toNat S_Token.zero).Kind) == 1) else none else some false : Option Bool).bind fun v5 => (if v5 = true then if (0 : Int) ≤ 0 ∧ 0 < (v1.1.length : Int) then some (((v1.1.getD (0 : Int).toNat S_Token.zero).Span.From) == 0) else none else some false : Option Bool).bind fun v8 => (if v8 = true then if (0 : Int) ≤ 0 ∧ 0 < (v1.1.length : Int) then some (((v1.1.getD (0 : Int).toNat S_Token.zero).Span.To) == (a0.size : Int)) else none else some false : Option Bool).bind fun v11 => some v11
theorem h10_IsName.body : Try.f16.body = some (.seq (.region 0 (rg Try.f16 0) false) (.seq (.region 1 (rg Try.f16 1) false) (.seq (.region 2 (rg Try.f16 2) false) .ret))) := by kernel_rfl
def h10_IsName.Ok (n : Nat) : Prop := ∀ (a0 : ByteArray) (r : Bool), h10_IsName.f n a0 = some r → Spec Try.prog 16 #[.string a0] [] (Unit) (fun _ => .bool r) (fun _ => [])
theorem h10_IsName.ok (n : Nat) : h10_IsName.Ok n := by
  intro a0 r h
  rw [h10_IsName.f.eq_1] at h
  refine spec_go (X := Unit) (val := fun r _ => .bool r) (ch := fun r _ => []) [tv a0] (by kernel_rfl) h10_IsName.body h (by kernel_rfl) (fun _ => by kernel_rfl) fun D => ?_
  refine sim_go [0] ?_
  refine sim_rg [0, 1, 2, 3, 4, 5, 6, 7, 8] ?_
  refine run_go 1 [7, 0] ?_
  refine run_call (fun v1 h => (t2_All.ok n) a0 v1 h) (some 8) (by kernel_rfl) (fun _ => by kernel_rfl) [] (by kernel_rfl) (fun v1 y2 => .tup [.s (lc v1.1.length y2.1), .s (ic v1.2.1), .s (ic v1.2.2)]) (fun _ _ _ => by kernel_rfl) fun v1 y2 => ?_
  refine run_go 7 [5, 3, 0] ?_
  refine run_sim ?_
  refine sim_rg [0, 1, 2, 3, 4, 5, 6, 7, 8, 9, 10, 11, 12, 13, 14, 15, 16, 17, 18, 19, 20, 21, 22, 23, 24, 25, 26, 27, 28, 29, 30, 31, 32] ?_
  refine run_sz (st' := ⟨[(14, ov (v1.2.2 == 0)), (3, lv v1.1.length y2.1), (0, tv a0)], []⟩) 3 [14, 3, 0] ?_
  refine run_joinN (V := Bool) (Y := Unit) [3, 4, 5, 6] [7, 8, 9, 10, 11, 12, 13, 14, 15, 16, 17, 18, 19, 20, 21, 22, 23, 24, 25, 26, 27, 28, 29, 30, 31, 32] rfl (fun v3 y4 => ⟨[(0, tv a0), (3, lv v1.1.length y2.1), (18, ov v3)], []⟩) (fun v3 y4 => [ro k_Token v1.1 y2.1]) (run_split (fun b => ⟨[(14, ov b), (3, lv v1.1.length y2.1), (0, tv a0)], []⟩) (fun _ => ?_) (fun _ => ?_)) fun v3 y4 => ?_
  · refine run_go 4 [18, 3, 0] ?_
    exact run_atN ((v1.1.length : Int) == 2) () [0, 3, 18] [] [(0, true)] (by kernel_rfl) (by kernel_rfl) rfl
  · refine run_go 4 [18, 3, 0] ?_
    exact run_atN false () [0, 3, 18] [] [(0, true)] (by kernel_rfl) (by kernel_rfl) rfl
  refine run_sz (st' := ⟨[(19, ov v3), (0, tv a0), (3, lv v1.1.length y2.1)], []⟩) 1 [19, 0, 3] ?_
  refine run_joinN (V := Bool) (Y := Unit) [8, 9, 10, 11, 12, 13] [14, 15, 16, 17, 18, 19, 20, 21, 22, 23, 24, 25, 26, 27, 28, 29, 30, 31, 32] rfl (fun v5 y6 => ⟨[(0, tv a0), (3, lv v1.1.length y2.1), (25, ov v5)], []⟩) (fun v5 y6 => [ro k_Token v1.1 y2.1]) (run_split (fun b => ⟨[(19, ov b), (0, tv a0), (3, lv v1.1.length y2.1)], []⟩) (fun _ => ?_) (fun _ => ?_)) fun v5 y6 => ?_
  · refine run_go 1 [20, 19, 0, 3] ?_
    refine run_fl (g_idxr 0 rfl 21 (by kernel_rfl) (by kernel_rfl)) fun ⟨H7⟩ => ?_
    refine run_go 1 [22, 19, 0, 3] ?_
    refine run_fl (g_ldr 0 rfl S_Token.zero H7 23 false 1 0 (by kernel_rfl) (by kernel_rfl)) fun _ => ?_
    refine run_go 2 [25, 0, 3] ?_
    exact run_atN (((v1.1.getD (0 : Int).toNat S_Token.zero).Kind) == 1) () [0, 3, 25] [] [(0, true)] (by kernel_rfl) (by kernel_rfl) rfl
  · refine run_go 6 [25, 0, 3] ?_
    exact run_atN false () [0, 3, 25] [] [(0, true)] (by kernel_rfl) (by kernel_rfl) rfl
  refine run_sz (st' := ⟨[(26, ov v5), (0, tv a0), (3, lv v1.1.length y2.1)], []⟩) 1 [26, 0, 3] ?_
  refine run_joinN (V := Bool) (Y := Unit) [15, 16, 17, 18, 19, 20, 21] [22, 23, 24, 25, 26, 27, 28, 29, 30, 31, 32] rfl (fun v8 y9 => ⟨[(0, tv a0), (3, lv v1.1.length y2.1), (33, ov v8)], []⟩) (fun v8 y9 => [ro k_Token v1.1 y2.1]) (run_split (fun b => ⟨[(26, ov b), (0, tv a0), (3, lv v1.1.length y2.1)], []⟩) (fun _ => ?_) (fun _ => ?_)) fun v8 y9 => ?_
  · refine run_go 1 [27, 26, 0, 3] ?_
    refine run_fl (g_idxr 0 rfl 28 (by kernel_rfl) (by kernel_rfl)) fun ⟨H10⟩ => ?_
    refine run_go 2 [30, 26, 0, 3] ?_
    refine run_fl (g_ldr 0 rfl S_Token.zero H10 31 false 1 1 (by kernel_rfl) (by kernel_rfl)) fun _ => ?_
    refine run_go 2 [33, 0, 3] ?_
    exact run_atN (((v1.1.getD (0 : Int).toNat S_Token.zero).Span.From) == 0) () [0, 3, 33] [] [(0, true)] (by kernel_rfl) (by kernel_rfl) rfl
  · refine run_go 7 [33, 0, 3] ?_
    exact run_atN false () [0, 3, 33] [] [(0, true)] (by kernel_rfl) (by kernel_rfl) rfl
  refine run_sz (st' := ⟨[(34, ov v8), (0, tv a0), (3, lv v1.1.length y2.1)], []⟩) 1 [34, 0, 3] ?_
  refine run_joinN (V := Bool) (Y := Unit) [23, 24, 25, 26, 27, 28, 29, 30, 31] [32] rfl (fun v11 y12 => ⟨[(43, ov v11)], []⟩) (fun v11 y12 => []) (run_split (fun b => ⟨[(34, ov b), (0, tv a0), (3, lv v1.1.length y2.1)], []⟩) (fun _ => ?_) (fun _ => ?_)) fun v11 y12 => ?_
  · refine run_go 1 [35, 34, 0] ?_
    refine run_fl (g_idxr 0 rfl 36 (by kernel_rfl) (by kernel_rfl)) fun ⟨H13⟩ => ?_
    refine run_go 2 [38, 34, 0] ?_
    refine run_fl (g_ldr 0 rfl S_Token.zero H13 39 false 1 2 (by kernel_rfl) (by kernel_rfl)) fun _ => ?_
    refine run_go 4 [43] ?_
    exact run_atN (((v1.1.getD (0 : Int).toNat S_Token.zero).Span.To) == (a0.size : Int)) () [43] [] [] (by kernel_rfl) (by kernel_rfl) rfl
  · refine run_go 9 [43] ?_
    exact run_atN false () [43] [] [] (by kernel_rfl) (by kernel_rfl) rfl
  refine run_go 1 [2] ?_
  refine run_sim ?_
  exact sim_ret v11 () rfl rfl (v := ov v11) (by kernel_rfl) (fun _ => by kernel_rfl) (fun _ _ => pk_out' [] (by kernel_rfl))
end Go.SX
