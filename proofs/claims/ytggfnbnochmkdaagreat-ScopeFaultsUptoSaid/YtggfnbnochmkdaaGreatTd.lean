/- Package tree: which expressions may be. -/
import Derived.Test.YtggfnbnochmkdaaGreatTa
namespace Go.Proofs.YtggfnbnochmkdaaGreat
open Go Go.RowKit Go.Lib Go.Proofs.YtggfnbnochmkdaaGreatW.PrintWords Go.Proofs.YtggfnbnochmkdaaGreat.PScope
set_option maxRecDepth 100000
set_option linter.unusedSimpArgs false
set_option linter.unusedVariables false
section
variable {P : Program} {t : TypeId} {ps rs : Array TypeId} {va : Bool}
theorem eqIn_nil_nil (ht : P.underlying t = some (.func ps rs va)) (d : Nat) (w : World) : (Op.equalIn (d + 1) t .nilFunc .nilFunc).run P w = .ok true w := by
 unfold Op.equalIn
 rw [Sem.run_bind, run_underlying ht]
 rfl
theorem eqIn_func_nil (ht : P.underlying t = some (.func ps rs va)) (d : Nat) (f : Fn) (a b : Array Value) (w : World) : (Op.equalIn (d + 1) t (.func f a b) .nilFunc).run P w = .ok false w := by
 unfold Op.equalIn
 rw [Sem.run_bind, run_underlying ht]
 rfl
theorem eql_nil_nil (ht : P.underlying t = some (.func ps rs va)) (w : World) : (binOp .eql t .nilFunc .nilFunc).run P w = .ok (.bool true) w := by
 show Sem.run P (Op.equalIn (9999 + 1) t .nilFunc .nilFunc >>= fun b => pure (Value.bool b)) w = _
 rw [Sem.run_bind, eqIn_nil_nil ht]; rfl
theorem neq_nil_nil (ht : P.underlying t = some (.func ps rs va)) (w : World) : (binOp .neq t .nilFunc .nilFunc).run P w = .ok (.bool false) w := by
 show Sem.run P (Op.equalIn (9999 + 1) t .nilFunc .nilFunc >>= fun b => pure (Value.bool (!b))) w = _
 rw [Sem.run_bind, eqIn_nil_nil ht]; rfl
theorem eql_func_nil (ht : P.underlying t = some (.func ps rs va)) (f : Fn) (a b : Array Value) (w : World) : (binOp .eql t (.func f a b) .nilFunc).run P w = .ok (.bool false) w := by
 show Sem.run P (Op.equalIn (9999 + 1) t (.func f a b) .nilFunc >>= fun b => pure (Value.bool b)) w = _
 rw [Sem.run_bind, eqIn_func_nil ht]; rfl
theorem neq_func_nil (ht : P.underlying t = some (.func ps rs va)) (f : Fn) (a b : Array Value) (w : World) : (binOp .neq t (.func f a b) .nilFunc).run P w = .ok (.bool true) w := by
 show Sem.run P (Op.equalIn (9999 + 1) t (.func f a b) .nilFunc >>= fun b => pure (Value.bool (!b))) w = _
 rw [Sem.run_bind, eqIn_func_nil ht]; rfl
end
def consF (u : Wants) : ByteArray → Bool := u.cons.getD (fun _ => true)
def nameOk (u : Wants) (s : ByteArray) : Bool := match u.name with | none => s.toList.isEmpty | some q => q s
def numOk (u : Wants) (n : Int) : Bool := match u.n with | none => n == 0 | some q => q n
def kidsOk (u : Wants) (k : Nat) : Bool := decide (u.kids ≤ k) && decide ((k : Int) ≤ u.many)
def sameOk (u : Wants) (a b : Nat) : Bool := !u.same || ((a : Int) == (b : Int))
def everyOk (x : S42) : Bool := !(x.f0 == 15) || ((rd_T42 x.f4 0).f0 == 14)
def topB (made : Bool) (x : S42) : Bool :=
 okOp x.f0 && (nameOk (wantsOf made x.f0) x.f1 && (numOk (wantsOf made x.f0) x.f2 && (allB x.f3 (wantsOf made x.f0).least (wantsOf made x.f0).most (consF (wantsOf made x.f0)) &&
   (kidsOk (wantsOf made x.f0) x.f4.length && (sameOk (wantsOf made x.f0) x.f3.length x.f4.length && everyOk x)))))
mutual
def exprB (made : Bool) : S42 → Bool
 | ⟨a, b, c, d, k⟩ => topB made ⟨a, b, c, d, k⟩ && exprsB made k
def exprsB (made : Bool) : List S42 → Bool
 | [] => true
 | k :: r => exprB made k && exprsB made r
end
theorem exprB_eq (made : Bool) (x : S42) : exprB made x = (topB made x && exprsB made x.f4) := by cases x; rw [exprB]
theorem exprsB_any (made : Bool) : ∀ l, exprsB made l = !l.any (fun k => !exprB made k)
 | [] => by rw [exprsB]; rfl
 | k :: r => by rw [exprsB, exprsB_any made r, List.any_cons]; cases exprB made k <;> simp
theorem sizeOf_kid (x : S42) (i : Nat) (h : i < x.f4.length) : SizeOf.sizeOf (x.f4.getD i z42) < SizeOf.sizeOf x := by
 have h1 : x.f4.getD i z42 ∈ x.f4 := by rw [List.getD_eq_getElem?_getD, List.getElem?_eq_getElem h]; exact List.getElem_mem h
 have h2 := List.sizeOf_lt_of_mem h1
 cases x
 simp only [S42.mk.sizeOf_spec] at *
 have h3 := h2
 omega
theorem expr1_eg : ∀ args w, (callFunc 119 args).run Tryz.prog w = .ok (.enter 119 args) w := enters_of Tryz.func119 (by kernel_rfl) rfl
theorem expr2_eg : ∀ args w, (callFunc 121 args).run Tryz.prog w = .ok (.enter 121 args) w := enters_of Tryz.func121 (by kernel_rfl) rfl
theorem expr1_calls (w0 : World) (v0 v1 v2 v3 v4 v5 v6 v7 : Value) (q : ByteArray → Bool) (hf : StrFn w0 v2 q) (gb : Nat) (s : ByteArray) (W : World) (hW : Below w0.heap.size w0 W) (hb : W.heap[gb]? = some (.cells #[v0, v1, v2, v3, v4, v5, v6, v7] 141 (0, 0))) :
   Calls Tryz.prog 119 #[.string s, .pointer (some ⟨gb, 0, none⟩)] W fun e w' => e = .returned (.bool (q s)) ∧ Below W.heap.size W w' := by
 obtain ⟨g, pre, lb, rfl, eg, hc⟩ := hf
 have hcall := hc W s hW
 have hx := (blk_cell hb 2).trans rfl
 have hu := Tryz.underlying141
 clear hc hb
 generalize q s = b at hcall
 go_enter Tryz.func119, Tryz.ntmps119
 go_wp2_with fail
 refine hcall.mono ?_; rintro e w1 ⟨rfl, hb1⟩
 go_wp2_with fail
 go_ret
 exact ⟨rfl, hb1⟩
theorem cons_fn (w0 : World) (u : Wants) (v0 v1 v2 v3 v4 v5 v6 v7 : Value) (hf : OptStr w0 v2 u.cons) (gb : Nat) (hb : w0.heap[gb]? = some (.cells #[v0, v1, v2, v3, v4, v5, v6, v7] 141 (0, 0))) :
   StrFnD w0 (.func (.func 119) #[] #[.pointer (some ⟨gb, 0, none⟩)]) (fun _ => u.cons.isSome = true) (consF u) := by
 refine ⟨_, _, _, rfl, expr1_eg, fun W s hs hW => ?_⟩
 cases hu : u.cons with
 | none => rw [hu] at hs; exact absurd hs (by simp)
 | some q =>
   rw [hu] at hf
   have : consF u = q := by rw [consF, hu]; rfl
   rw [this]
   exact expr1_calls w0 v0 v1 v2 v3 v4 v5 v6 v7 q hf gb s W hW (below_blk hb hW)
def ExprSays (made : Bool) (x : S42) : Prop := ∀ (w : World) (cs : List Value), k42.K w x cs →
 Calls Tryz.prog 112 #[.agg #[.bool made], .agg cs.toArray] w fun e w' => e = .returned (.bool (exprB made x)) ∧ Below w.heap.size w w'
theorem expr2_calls (made : Bool) (x : S42) (hx : ExprSays made x) (gb : Nat) (W : World) (cs : List Value) (hK : k42.K W x cs) (hb : W.heap[gb]? = some (.cells #[.bool made] 71 (0, 0))) :
   Calls Tryz.prog 121 #[.agg cs.toArray, .pointer (some ⟨gb, 0, none⟩)] W fun e w' => e = .returned (.bool (!exprB made x)) ∧ Below W.heap.size W w' := by
 have hcall := fun W' (h : Below W.heap.size W W') => hx W' cs (Kd.K_below _ h hK)
 obtain ⟨A3, c3, A4, c4, rfl, _⟩ := k42_open hK
 have h0 := fun o => (blk_cell (blk_alloc hb o) 0).trans rfl
 have hu := Tryz.underlying42
 have hu2 := Tryz.underlying71
 clear hb hK hx
 generalize exprB made x = b at hcall
 go_enter Tryz.func121, Tryz.ntmps121
 go_wp2_with fail
 refine (hcall _ (below_alloc (Below.refl _ _) _)).mono ?_; rintro e w1 ⟨rfl, hb1⟩
 go_wp2_with fail
 go_ret
 exact ⟨rfl, below_step (below_alloc (Below.refl _ _) _) hb1⟩
theorem OptStr.later {w0 w1 : World} {v : Value} {o : Option (ByteArray → Bool)} (h : OptStr w0 v o) (hb : Below w0.heap.size w0 w1) : OptStr w1 v o := by
 cases o with
 | none => exact h
 | some q => exact StrFn.later h hb
theorem wants_else (made : Bool) (op : Int) (h : op < 1 ∨ 15 < op) : wantsOf made op = wNone := by
 unfold wantsOf
 repeat rw [if_neg (by omega)]
theorem op_cases (op : Int) : (op = 1 ∨ op = 2 ∨ op = 3 ∨ op = 4 ∨ op = 5 ∨ op = 6 ∨ op = 7 ∨ op = 8 ∨ op = 9 ∨ op = 10 ∨ op = 11 ∨ op = 12 ∨ op = 13 ∨ op = 14 ∨ op = 15) ∨ op < 1 ∨ 15 < op := by omega
theorem wants_cons (made : Bool) (op : Int) (l : List ByteArray) (h : (l.length : Int) ≤ (wantsOf made op).most) : ∀ s, s ∈ l → (wantsOf made op).cons.isSome = true := by
 intro s hs
 have hl : 0 < l.length := List.length_pos_of_mem hs
 rcases op_cases op with hc | hc
 · rcases hc with rfl | rfl | rfl | rfl | rfl | rfl | rfl | rfl | rfl | rfl | rfl | rfl | rfl | rfl | rfl
   all_goals first | rfl | (exfalso; have h' : (l.length : Int) ≤ 0 := h; omega)
 · rw [wants_else made op hc] at h; exfalso; have h' : (l.length : Int) ≤ 0 := h; omega
theorem wants_one (made : Bool) (op : Int) : (wantsOf made op).name = none ∨ (wantsOf made op).n = none := by
 rcases op_cases op with hc | hc
 · rcases hc with rfl | rfl | rfl | rfl | rfl | rfl | rfl | rfl | rfl | rfl | rfl | rfl | rfl | rfl | rfl
   all_goals first | exact .inl rfl | exact .inr rfl
 · rw [wants_else made op hc]; exact .inl rfl
theorem add_zero' (a : Addr) : a.add 0 = a := by unfold Addr.add; simp
set_option maxHeartbeats 8000000 in
theorem expr_step (made : Bool) (x : S42) (ih : ∀ i, i < x.f4.length → ExprSays made (x.f4.getD i z42)) : ExprSays made x := by
 intro w cs hK
 obtain ⟨A3, c3, A4, c4, rfl, l3, g3, l4, g4⟩ := k42_open hK
 have hof := fun W => of_calls made x.f0 W
 have hfin := exprB_eq made x
 unfold topB at hfin
 have hp : x.f0 = 15 → (wantsOf made x.f0).kids ≤ (x.f4.length : Int) → 0 < x.f4.length := fun h1 h2 => by
   rw [h1] at h2
   have : (wantsOf made 15).kids = 2 := rfl
   omega
 have hd : (x.f3.length : Int) ≤ (wantsOf made x.f0).most → ∀ s, s ∈ x.f3 → (wantsOf made x.f0).cons.isSome = true := wants_cons made x.f0 x.f3
 have hone := wants_one made x.f0
 generalize wantsOf made x.f0 = u at hof hfin hp hd hone
 generalize okOp x.f0 = ok at hof hfin
 have HP := Aside0.mk hp; have HD := Aside0.mk hd
 have L3 := Aside0.mk l3; have G3 := Aside0.mk g3; have L4 := Aside0.mk l4; have G4 := Aside0.mk g4
 have IH := Aside0.mk ih
 have HF := Aside0.mk hfin
 clear l3 g3 l4 g4 hK ih hfin hp hd
 have hu := Tryz.underlying42
 have hu2 := Tryz.underlying71
 have hu3 := Tryz.underlying141
 have q1 := fun W => eql_nil_nil Tryz.underlying94 W
 have q2 := fun W => neq_nil_nil Tryz.underlying94 W
 have q3 := fun f a b W => eql_func_nil Tryz.underlying94 f a b W
 have q4 := fun f a b W => neq_func_nil Tryz.underlying94 f a b W
 have q5 := fun W => eql_nil_nil Tryz.underlying139 W
 have q6 := fun W => neq_nil_nil Tryz.underlying139 W
 have q7 := fun f a b W => eql_func_nil Tryz.underlying139 f a b W
 have q8 := fun f a b W => neq_func_nil Tryz.underlying139 f a b W
 go_enter Tryz.func112, Tryz.ntmps112
 go_wp2_with fail
 refine (hof _).mono ?_
 rintro e w1 ⟨v0, v1, v2, rfl, hn, hm, hc, hb⟩
 have B2 := Aside0.mk (below_blk (blk_alloc (blk_new w (.cells #[.bool made] 71)) (.cells #[.int .i64 x.f0, .string x.f1, .int .i64 x.f2, .slice A3 x.f3.length c3, .slice A4 x.f4.length c4] 42)) hb)
 have B3 := Aside0.mk (below_blk (blk_new2 w (.cells #[.bool made] 71) (.cells #[.int .i64 x.f0, .string x.f1, .int .i64 x.f2, .slice A3 x.f3.length c3, .slice A4 x.f4.length c4] 42)) hb)
 have HB := Aside0.mk (below_step (below_alloc (below_alloc (Below.refl _ _) _) _) hb)
 have hsz := hb.size
 simp only [heap_size_alloc'] at hsz
 have h2 : w.heap.size < w1.heap.size := by omega
 have h3 : w.heap.size + 1 < w1.heap.size := by omega
 clear hb hsz hof
 obtain ⟨g2, hg2⟩ : ∃ g, g = w.heap.size := ⟨_, rfl⟩
 obtain ⟨g3, hg3⟩ : ∃ g, g = w.heap.size + 1 := ⟨_, rfl⟩
 rw [← hg2] at B2 h2
 rw [← hg3] at B3 h3
 rw [← hg3, ← hg2]
 clear hg2 hg3
 have hnv : (u.name = none ∧ v0 = .nilFunc) ∨ ∃ q, u.name = some q ∧ StrFn w1 v0 q := by
   cases h : u.name with
   | none => rw [h] at hn; exact .inl ⟨rfl, hn⟩
   | some q => rw [h] at hn; exact .inr ⟨q, rfl, hn⟩
 have hmv : (u.n = none ∧ v1 = .nilFunc) ∨ ∃ q, u.n = some q ∧ IntFn w1 v1 q := by
   cases h : u.n with
   | none => rw [h] at hm; exact .inl ⟨rfl, hm⟩
   | some q => rw [h] at hm; exact .inr ⟨q, rfl, hm⟩
 have hcv : v2.oneCell' = true := by
   cases h : u.cons with
   | none => rw [h] at hc; rw [show v2 = .nilFunc from hc]; rfl
   | some q => rw [h] at hc; obtain ⟨g, pre, lb, rfl, _⟩ := hc; rfl
 have FC := Aside0.mk hc
 clear hn hm hc
 have HNV := Aside0.mk hnv; have HMV := Aside0.mk hmv; have HONE := Aside0.mk hone
 clear hnv hmv hone
 cases ok with
 | false =>
   rcases HNV.out with ⟨_, rfl⟩ | ⟨q, _, gn, pn, ln, rfl, _⟩
   all_goals
     rcases HMV.out with ⟨_, rfl⟩ | ⟨q', _, gm, rfl, _⟩
   all_goals
     go_wp2_with ((with_reducible refine gate_store (t := 141) (p := 5) rfl ?_); refine store_whole rfl rfl 141 _ _ rfl w1.heap.size _ 141 rfl (blk_new _ _) _ rfl rfl rfl (by intro q_ hq_; simp at hq_; rcases hq_ with rfl | rfl | rfl | rfl | rfl | rfl | rfl | rfl <;> first | rfl | exact hcv) ?_; intro w2 hb5 hgr; have B5 := Aside0.mk hb5; have HG := Aside0.mk hgr; clear hb5 hgr; replace B2 := Aside0.mk ((HG.out.block g2 (by simp; omega) (by intro e; injection e with e; omega)).trans (blk_alloc B2.out _)); replace B3 := Aside0.mk ((HG.out.block g3 (by simp; omega) (by intro e; injection e with e; omega)).trans (blk_alloc B3.out _)); replace HB := Aside0.mk ((below_alloc HB.out _).grown HG.out (by have := HB.out.size; simp; omega) (fun k hk => by cases hk; exact HB.out.size)); have HW := Aside0.mk ((below_alloc (Below.refl _ _) _).grown HG.out (by simp) (fun k hk => by cases hk; exact Nat.le_refl _) : Below w1.heap.size w1 w2); have FC2 := Aside0.mk (OptStr.later FC.out HW.out); clear FC; have FC := FC2; clear FC2; obtain ⟨g5, hg5⟩ : ∃ g, g = w1.heap.size := ⟨_, rfl⟩; rw [← hg5] at B5 HG; rw [← hg5]; clear hg5 HG; have c20 := (blk_cell B2.out 0).trans rfl; have c30 := (blk_cell B3.out 0).trans rfl; have c31 := (blk_cell B3.out 1).trans rfl; have c32 := (blk_cell B3.out 2).trans rfl; have c33 := (blk_cell B3.out 3).trans rfl; have c34 := (blk_cell B3.out 4).trans rfl; have c50 := (blk_cell B5.out 0).trans rfl; have c51 := (blk_cell B5.out 1).trans rfl; have c52 := (blk_cell B5.out 2).trans rfl; have c53 := (blk_cell B5.out 3).trans rfl; have c54 := (blk_cell B5.out 4).trans rfl; have c55 := (blk_cell B5.out 5).trans rfl; have c56 := (blk_cell B5.out 6).trans rfl; have c57 := (blk_cell B5.out 7).trans rfl)
     go_ret
     exact ⟨by rw [HF.out]; rfl, HB.out⟩
 | true =>
   rw [Bool.true_and] at HF
   rcases HNV.out with ⟨hun, rfl⟩ | ⟨q, hun, hq⟩
   · rcases HMV.out with ⟨hum, rfl⟩ | ⟨q', hum, hq'⟩
     · skip
       have HNO := Aside0.mk (show nameOk u x.f1 = x.f1.toList.isEmpty by unfold nameOk; rw [hun])
       clear hun
       cases hz : x.f1.toList.isEmpty with
       | false =>
         have hz' : (!x.f1.toList.isEmpty) = true := by rw [hz]; rfl
         have HZ := Aside0.mk (HNO.out.trans hz)
         clear HNO
         go_wp2_with ((with_reducible refine gate_store (t := 141) (p := 5) rfl ?_); refine store_whole rfl rfl 141 _ _ rfl w1.heap.size _ 141 rfl (blk_new _ _) _ rfl rfl rfl (by intro q_ hq_; simp at hq_; rcases hq_ with rfl | rfl | rfl | rfl | rfl | rfl | rfl | rfl <;> first | rfl | exact hcv) ?_; intro w2 hb5 hgr; have B5 := Aside0.mk hb5; have HG := Aside0.mk hgr; clear hb5 hgr; replace B2 := Aside0.mk ((HG.out.block g2 (by simp; omega) (by intro e; injection e with e; omega)).trans (blk_alloc B2.out _)); replace B3 := Aside0.mk ((HG.out.block g3 (by simp; omega) (by intro e; injection e with e; omega)).trans (blk_alloc B3.out _)); replace HB := Aside0.mk ((below_alloc HB.out _).grown HG.out (by have := HB.out.size; simp; omega) (fun k hk => by cases hk; exact HB.out.size)); have HW := Aside0.mk ((below_alloc (Below.refl _ _) _).grown HG.out (by simp) (fun k hk => by cases hk; exact Nat.le_refl _) : Below w1.heap.size w1 w2); have FC2 := Aside0.mk (OptStr.later FC.out HW.out); clear FC; have FC := FC2; clear FC2; obtain ⟨g5, hg5⟩ : ∃ g, g = w1.heap.size := ⟨_, rfl⟩; rw [← hg5] at B5 HG; rw [← hg5]; clear hg5 HG; have c20 := (blk_cell B2.out 0).trans rfl; have c30 := (blk_cell B3.out 0).trans rfl; have c31 := (blk_cell B3.out 1).trans rfl; have c32 := (blk_cell B3.out 2).trans rfl; have c33 := (blk_cell B3.out 3).trans rfl; have c34 := (blk_cell B3.out 4).trans rfl; have c50 := (blk_cell B5.out 0).trans rfl; have c51 := (blk_cell B5.out 1).trans rfl; have c52 := (blk_cell B5.out 2).trans rfl; have c53 := (blk_cell B5.out 3).trans rfl; have c54 := (blk_cell B5.out 4).trans rfl; have c55 := (blk_cell B5.out 5).trans rfl; have c56 := (blk_cell B5.out 6).trans rfl; have c57 := (blk_cell B5.out 7).trans rfl)
         go_ret
         exact ⟨by rw [HF.out]; simp [HZ.out], HB.out⟩
       | true =>
         have hz' : x.f1.toList = [] := List.isEmpty_iff.1 hz
         have HZ := Aside0.mk (HNO.out.trans hz)
         clear HNO hz
         rw [HZ.out, Bool.true_and] at HF
         clear HZ
         have HNM := Aside0.mk (show numOk u x.f2 = (x.f2 == 0) by unfold numOk; rw [hum])
         clear hum
         cases hy : (x.f2 == 0) with
         | false =>
           have hy' : (x.f2 != 0) = true := by rw [bne, hy]; rfl
           have HY := Aside0.mk (HNM.out.trans hy)
           clear HNM hy
           go_wp2_with ((with_reducible refine gate_store (t := 141) (p := 5) rfl ?_); refine store_whole rfl rfl 141 _ _ rfl w1.heap.size _ 141 rfl (blk_new _ _) _ rfl rfl rfl (by intro q_ hq_; simp at hq_; rcases hq_ with rfl | rfl | rfl | rfl | rfl | rfl | rfl | rfl <;> first | rfl | exact hcv) ?_; intro w2 hb5 hgr; have B5 := Aside0.mk hb5; have HG := Aside0.mk hgr; clear hb5 hgr; replace B2 := Aside0.mk ((HG.out.block g2 (by simp; omega) (by intro e; injection e with e; omega)).trans (blk_alloc B2.out _)); replace B3 := Aside0.mk ((HG.out.block g3 (by simp; omega) (by intro e; injection e with e; omega)).trans (blk_alloc B3.out _)); replace HB := Aside0.mk ((below_alloc HB.out _).grown HG.out (by have := HB.out.size; simp; omega) (fun k hk => by cases hk; exact HB.out.size)); have HW := Aside0.mk ((below_alloc (Below.refl _ _) _).grown HG.out (by simp) (fun k hk => by cases hk; exact Nat.le_refl _) : Below w1.heap.size w1 w2); have FC2 := Aside0.mk (OptStr.later FC.out HW.out); clear FC; have FC := FC2; clear FC2; obtain ⟨g5, hg5⟩ : ∃ g, g = w1.heap.size := ⟨_, rfl⟩; rw [← hg5] at B5 HG; rw [← hg5]; clear hg5 HG; have c20 := (blk_cell B2.out 0).trans rfl; have c30 := (blk_cell B3.out 0).trans rfl; have c31 := (blk_cell B3.out 1).trans rfl; have c32 := (blk_cell B3.out 2).trans rfl; have c33 := (blk_cell B3.out 3).trans rfl; have c34 := (blk_cell B3.out 4).trans rfl; have c50 := (blk_cell B5.out 0).trans rfl; have c51 := (blk_cell B5.out 1).trans rfl; have c52 := (blk_cell B5.out 2).trans rfl; have c53 := (blk_cell B5.out 3).trans rfl; have c54 := (blk_cell B5.out 4).trans rfl; have c55 := (blk_cell B5.out 5).trans rfl; have c56 := (blk_cell B5.out 6).trans rfl; have c57 := (blk_cell B5.out 7).trans rfl)
           go_ret
           exact ⟨by rw [HF.out]; simp [HY.out], HB.out⟩
         | true =>
           have hy' : (x.f2 != 0) = false := by rw [bne, hy]; rfl
           have HY := Aside0.mk (HNM.out.trans hy)
           clear HNM hy
           rw [HY.out, Bool.true_and] at HF
           clear HY
           go_wp2_with ((with_reducible refine gate_store (t := 141) (p := 5) rfl ?_); refine store_whole rfl rfl 141 _ _ rfl w1.heap.size _ 141 rfl (blk_new _ _) _ rfl rfl rfl (by intro q_ hq_; simp at hq_; rcases hq_ with rfl | rfl | rfl | rfl | rfl | rfl | rfl | rfl <;> first | rfl | exact hcv) ?_; intro w2 hb5 hgr; have B5 := Aside0.mk hb5; have HG := Aside0.mk hgr; clear hb5 hgr; replace B2 := Aside0.mk ((HG.out.block g2 (by simp; omega) (by intro e; injection e with e; omega)).trans (blk_alloc B2.out _)); replace B3 := Aside0.mk ((HG.out.block g3 (by simp; omega) (by intro e; injection e with e; omega)).trans (blk_alloc B3.out _)); replace HB := Aside0.mk ((below_alloc HB.out _).grown HG.out (by have := HB.out.size; simp; omega) (fun k hk => by cases hk; exact HB.out.size)); have HW := Aside0.mk ((below_alloc (Below.refl _ _) _).grown HG.out (by simp) (fun k hk => by cases hk; exact Nat.le_refl _) : Below w1.heap.size w1 w2); have FC2 := Aside0.mk (OptStr.later FC.out HW.out); clear FC; have FC := FC2; clear FC2; obtain ⟨g5, hg5⟩ : ∃ g, g = w1.heap.size := ⟨_, rfl⟩; rw [← hg5] at B5 HG; rw [← hg5]; clear hg5 HG; have c20 := (blk_cell B2.out 0).trans rfl; have c30 := (blk_cell B3.out 0).trans rfl; have c31 := (blk_cell B3.out 1).trans rfl; have c32 := (blk_cell B3.out 2).trans rfl; have c33 := (blk_cell B3.out 3).trans rfl; have c34 := (blk_cell B3.out 4).trans rfl; have c50 := (blk_cell B5.out 0).trans rfl; have c51 := (blk_cell B5.out 1).trans rfl; have c52 := (blk_cell B5.out 2).trans rfl; have c53 := (blk_cell B5.out 3).trans rfl; have c54 := (blk_cell B5.out 4).trans rfl; have c55 := (blk_cell B5.out 5).trans rfl; have c56 := (blk_cell B5.out 6).trans rfl; have c57 := (blk_cell B5.out 7).trans rfl)
           refine (all_callsD _ _ _ _ (cons_fn _ u _ _ v2 _ _ _ _ _ FC.out g5 B5.out) A3 c3 x.f3 (Kd.C_below G3.out HB.out) u.least u.most (fun hl s hs => HD.out hl s hs) _ (Below.refl _ _)).mono ?_
           rintro e w4 ⟨rfl, hb⟩
           replace B2 := Aside0.mk (below_blk B2.out hb)
           replace B3 := Aside0.mk (below_blk B3.out hb)
           replace B5 := Aside0.mk (below_blk B5.out hb)
           replace HB := Aside0.mk (below_step HB.out hb)
           clear hb
           clear FC HD
           generalize allB x.f3 u.least u.most (consF u) = ab at HF ⊢
           cases ab with
           | false =>
             have c20 := (blk_cell B2.out 0).trans rfl
             have c30 := (blk_cell B3.out 0).trans rfl
             have c31 := (blk_cell B3.out 1).trans rfl
             have c32 := (blk_cell B3.out 2).trans rfl
             have c33 := (blk_cell B3.out 3).trans rfl
             have c34 := (blk_cell B3.out 4).trans rfl
             have c50 := (blk_cell B5.out 0).trans rfl
             have c51 := (blk_cell B5.out 1).trans rfl
             have c52 := (blk_cell B5.out 2).trans rfl
             have c53 := (blk_cell B5.out 3).trans rfl
             have c54 := (blk_cell B5.out 4).trans rfl
             have c55 := (blk_cell B5.out 5).trans rfl
             have c56 := (blk_cell B5.out 6).trans rfl
             have c57 := (blk_cell B5.out 7).trans rfl
             go_wp2_with fail
             go_ret
             exact ⟨by rw [HF.out]; simp, HB.out⟩
           | true =>
             by_cases k1 : (x.f4.length : Int) < u.kids
             · have d1 : decide ((x.f4.length : Int) < u.kids) = true := decide_eq_true k1
               have d1' : decide (u.kids ≤ (x.f4.length : Int)) = false := decide_eq_false (by omega)
               have c20 := (blk_cell B2.out 0).trans rfl
               have c30 := (blk_cell B3.out 0).trans rfl
               have c31 := (blk_cell B3.out 1).trans rfl
               have c32 := (blk_cell B3.out 2).trans rfl
               have c33 := (blk_cell B3.out 3).trans rfl
               have c34 := (blk_cell B3.out 4).trans rfl
               have c50 := (blk_cell B5.out 0).trans rfl
               have c51 := (blk_cell B5.out 1).trans rfl
               have c52 := (blk_cell B5.out 2).trans rfl
               have c53 := (blk_cell B5.out 3).trans rfl
               have c54 := (blk_cell B5.out 4).trans rfl
               have c55 := (blk_cell B5.out 5).trans rfl
               have c56 := (blk_cell B5.out 6).trans rfl
               have c57 := (blk_cell B5.out 7).trans rfl
               go_wp2_with fail
               go_ret
               exact ⟨by rw [HF.out]; simp [kidsOk, d1'], HB.out⟩
             have d1 : decide ((x.f4.length : Int) < u.kids) = false := decide_eq_false k1
             have d1' := Aside0.mk (decide_eq_true (show u.kids ≤ (x.f4.length : Int) by omega))
             by_cases k2 : (x.f4.length : Int) > u.many
             · have d2 : decide ((x.f4.length : Int) > u.many) = true := decide_eq_true k2
               have d2' : decide ((x.f4.length : Int) ≤ u.many) = false := decide_eq_false (by omega)
               have c20 := (blk_cell B2.out 0).trans rfl
               have c30 := (blk_cell B3.out 0).trans rfl
               have c31 := (blk_cell B3.out 1).trans rfl
               have c32 := (blk_cell B3.out 2).trans rfl
               have c33 := (blk_cell B3.out 3).trans rfl
               have c34 := (blk_cell B3.out 4).trans rfl
               have c50 := (blk_cell B5.out 0).trans rfl
               have c51 := (blk_cell B5.out 1).trans rfl
               have c52 := (blk_cell B5.out 2).trans rfl
               have c53 := (blk_cell B5.out 3).trans rfl
               have c54 := (blk_cell B5.out 4).trans rfl
               have c55 := (blk_cell B5.out 5).trans rfl
               have c56 := (blk_cell B5.out 6).trans rfl
               have c57 := (blk_cell B5.out 7).trans rfl
               go_wp2_with fail
               go_ret
               exact ⟨by rw [HF.out]; simp [kidsOk, d2'], HB.out⟩
             have d2 : decide ((x.f4.length : Int) > u.many) = false := decide_eq_false k2
             have d2' := Aside0.mk (decide_eq_true (show (x.f4.length : Int) ≤ u.many by omega))
             have KO := Aside0.mk (show kidsOk u x.f4.length = true by unfold kidsOk; rw [d1'.out, d2'.out]; rfl)
             clear k1 k2 d1' d2'
             cases hs : sameOk u x.f3.length x.f4.length with
             | false =>
               have hsm : u.same = true := by unfold sameOk at hs; cases h : u.same <;> simp_all
               have hne : ((x.f3.length : Int) == (x.f4.length : Int)) = false := by unfold sameOk at hs; cases h : ((x.f3.length : Int) == (x.f4.length : Int)) <;> simp_all
               have hne' : ((x.f3.length : Int) != (x.f4.length : Int)) = true := by rw [bne, hne]; rfl
               have hneN : (x.f3.length != x.f4.length) = true := by rw [bne_iff_ne]; intro h; rw [h] at hne; simp at hne
               have HSM := Aside0.mk hs
               clear hs hne
               rw [hsm] at B5
               clear hsm
               have c20 := (blk_cell B2.out 0).trans rfl
               have c30 := (blk_cell B3.out 0).trans rfl
               have c31 := (blk_cell B3.out 1).trans rfl
               have c32 := (blk_cell B3.out 2).trans rfl
               have c33 := (blk_cell B3.out 3).trans rfl
               have c34 := (blk_cell B3.out 4).trans rfl
               have c50 := (blk_cell B5.out 0).trans rfl
               have c51 := (blk_cell B5.out 1).trans rfl
               have c52 := (blk_cell B5.out 2).trans rfl
               have c53 := (blk_cell B5.out 3).trans rfl
               have c54 := (blk_cell B5.out 4).trans rfl
               have c55 := (blk_cell B5.out 5).trans rfl
               have c56 := (blk_cell B5.out 6).trans rfl
               have c57 := (blk_cell B5.out 7).trans rfl
               go_wp2_with fail
               go_ret
               exact ⟨by rw [HF.out]; simp [HSM.out], HB.out⟩
             | true =>
               have HSM := Aside0.mk hs
               clear hs
               have htwo : (u.same = false) ∨ (u.same = true ∧ ((x.f3.length : Int) != (x.f4.length : Int)) = false ∧ (x.f3.length != x.f4.length) = false) := by
                 have hs := HSM.out; unfold sameOk at hs; cases h : u.same with
                 | false => exact .inl rfl
                 | true => rw [h] at hs; simp at hs; exact .inr ⟨rfl, by simp; omega, by simp; omega⟩
               have hev : (everyOk x = false ∧ (x.f0 == 15) = true ∧ ((rd_T42 x.f4 0).f0 != 14) = true) ∨ (everyOk x = true ∧ (x.f0 == 15) = true ∧ ((rd_T42 x.f4 0).f0 != 14) = false) ∨ (everyOk x = true ∧ (x.f0 == 15) = false) := by
                 unfold everyOk; cases h : (x.f0 == 15) with
                 | false => exact .inr (.inr ⟨rfl, rfl⟩)
                 | true => cases h2 : ((rd_T42 x.f4 0).f0 == 14) with
                   | false => exact .inl ⟨rfl, rfl, by rw [bne, h2]; rfl⟩
                   | true => exact .inr (.inl ⟨rfl, rfl, by rw [bne, h2]; rfl⟩)
               have hpos : (x.f0 == 15) = true → 0 < x.f4.length := fun h => HP.out (by simpa using h) (by have := KO.out; unfold kidsOk at this; simp at this; exact this.1)
               have HPOS := Aside0.mk hpos
               clear hpos
               rcases htwo with hsm | ⟨hsm, hse, hseN⟩
               all_goals
                 rw [hsm] at B5
                 clear hsm
                 rcases hev with ⟨he, h15, h14⟩ | ⟨he, h15, h14⟩ | ⟨he, h15⟩
                 · have HE := Aside0.mk he
                   clear he
                   have h0 := HPOS.out h15
                   have g4 := Kd.C_below G4.out HB.out
                   obtain ⟨ad, a3, d3, a4, d4, rfl, hx0, _⟩ := at_T42 g4 0 (by omega) (by omega)
                   rw [show (0 : Int).toNat * 5 = 0 from rfl, add_zero'] at hx0
                   clear g4
                   have c20 := (blk_cell B2.out 0).trans rfl
                   have c30 := (blk_cell B3.out 0).trans rfl
                   have c31 := (blk_cell B3.out 1).trans rfl
                   have c32 := (blk_cell B3.out 2).trans rfl
                   have c33 := (blk_cell B3.out 3).trans rfl
                   have c34 := (blk_cell B3.out 4).trans rfl
                   have c50 := (blk_cell B5.out 0).trans rfl
                   have c51 := (blk_cell B5.out 1).trans rfl
                   have c52 := (blk_cell B5.out 2).trans rfl
                   have c53 := (blk_cell B5.out 3).trans rfl
                   have c54 := (blk_cell B5.out 4).trans rfl
                   have c55 := (blk_cell B5.out 5).trans rfl
                   have c56 := (blk_cell B5.out 6).trans rfl
                   have c57 := (blk_cell B5.out 7).trans rfl
                   go_wp2_with fail
                   go_ret
                   exact ⟨by rw [HF.out]; simp [KO.out, HSM.out, HE.out], HB.out⟩
                 · have HE := Aside0.mk he
                   clear he
                   have h0 := HPOS.out h15
                   have g4 := Kd.C_below G4.out HB.out
                   obtain ⟨ad, a3, d3, a4, d4, rfl, hx0, _⟩ := at_T42 g4 0 (by omega) (by omega)
                   rw [show (0 : Int).toNat * 5 = 0 from rfl, add_zero'] at hx0
                   clear g4
                   have c20 := (blk_cell B2.out 0).trans rfl
                   have c30 := (blk_cell B3.out 0).trans rfl
                   have c31 := (blk_cell B3.out 1).trans rfl
                   have c32 := (blk_cell B3.out 2).trans rfl
                   have c33 := (blk_cell B3.out 3).trans rfl
                   have c34 := (blk_cell B3.out 4).trans rfl
                   have c50 := (blk_cell B5.out 0).trans rfl
                   have c51 := (blk_cell B5.out 1).trans rfl
                   have c52 := (blk_cell B5.out 2).trans rfl
                   have c53 := (blk_cell B5.out 3).trans rfl
                   have c54 := (blk_cell B5.out 4).trans rfl
                   have c55 := (blk_cell B5.out 5).trans rfl
                   have c56 := (blk_cell B5.out 6).trans rfl
                   have c57 := (blk_cell B5.out 7).trans rfl
                   go_wp2_with fail
                   refine (ct_Expr _ _ expr2_eg w _ (some ad) c4 x.f4 (G4.out) (fun i => !exprB made (x.f4.getD i z42)) (fun _ W' => Below w4.heap.size w4 W') (fun _ W' => Below w4.heap.size w4 W') (fun _ W' h => below_step HB.out h) ?_ (Below.refl _ _)).mono ?_
                   · intro i W' ds hi hI hKd
                     refine (expr2_calls made _ (IH.out i hi) g2 W' ds (Kd.K_below _ (below_step HB.out hI) hKd) (below_blk B2.out hI)).mono ?_
                     rintro e w' ⟨rfl, hb'⟩
                     exact ⟨rfl, fun _ => below_step hI hb', fun _ => below_step hI hb'⟩
                   · intro e w' h
                     obtain ⟨rfl, hb⟩ := CtPost.any (q := fun k => !exprB made k) (z := z42) (I := fun W' => Below w4.heap.size w4 W') h
                     clear h
                     have HX := Aside0.mk (exprsB_any made x.f4)
                     have HB' := Aside0.mk (below_step HB.out hb)
                     clear hb
                     generalize x.f4.any (fun k => !exprB made k) = r at HX ⊢
                     go_wp2_with fail
                     go_ret
                     exact ⟨by rw [HF.out, HX.out, KO.out, HSM.out, HE.out]; simp, HB'.out⟩
                 · have HE := Aside0.mk he
                   clear he
                   have c20 := (blk_cell B2.out 0).trans rfl
                   have c30 := (blk_cell B3.out 0).trans rfl
                   have c31 := (blk_cell B3.out 1).trans rfl
                   have c32 := (blk_cell B3.out 2).trans rfl
                   have c33 := (blk_cell B3.out 3).trans rfl
                   have c34 := (blk_cell B3.out 4).trans rfl
                   have c50 := (blk_cell B5.out 0).trans rfl
                   have c51 := (blk_cell B5.out 1).trans rfl
                   have c52 := (blk_cell B5.out 2).trans rfl
                   have c53 := (blk_cell B5.out 3).trans rfl
                   have c54 := (blk_cell B5.out 4).trans rfl
                   have c55 := (blk_cell B5.out 5).trans rfl
                   have c56 := (blk_cell B5.out 6).trans rfl
                   have c57 := (blk_cell B5.out 7).trans rfl
                   go_wp2_with fail
                   refine (ct_Expr _ _ expr2_eg w _ A4 c4 x.f4 (G4.out) (fun i => !exprB made (x.f4.getD i z42)) (fun _ W' => Below w4.heap.size w4 W') (fun _ W' => Below w4.heap.size w4 W') (fun _ W' h => below_step HB.out h) ?_ (Below.refl _ _)).mono ?_
                   · intro i W' ds hi hI hKd
                     refine (expr2_calls made _ (IH.out i hi) g2 W' ds (Kd.K_below _ (below_step HB.out hI) hKd) (below_blk B2.out hI)).mono ?_
                     rintro e w' ⟨rfl, hb'⟩
                     exact ⟨rfl, fun _ => below_step hI hb', fun _ => below_step hI hb'⟩
                   · intro e w' h
                     obtain ⟨rfl, hb⟩ := CtPost.any (q := fun k => !exprB made k) (z := z42) (I := fun W' => Below w4.heap.size w4 W') h
                     clear h
                     have HX := Aside0.mk (exprsB_any made x.f4)
                     have HB' := Aside0.mk (below_step HB.out hb)
                     clear hb
                     generalize x.f4.any (fun k => !exprB made k) = r at HX ⊢
                     go_wp2_with fail
                     go_ret
                     exact ⟨by rw [HF.out, HX.out, KO.out, HSM.out, HE.out]; simp, HB'.out⟩
     · obtain ⟨gm, rfl, egm, hcm⟩ := hq'
       have HNO := Aside0.mk (show nameOk u x.f1 = x.f1.toList.isEmpty by unfold nameOk; rw [hun])
       clear hun
       cases hz : x.f1.toList.isEmpty with
       | false =>
         have hz' : (!x.f1.toList.isEmpty) = true := by rw [hz]; rfl
         have HZ := Aside0.mk (HNO.out.trans hz)
         clear HNO
         go_wp2_with ((with_reducible refine gate_store (t := 141) (p := 5) rfl ?_); refine store_whole rfl rfl 141 _ _ rfl w1.heap.size _ 141 rfl (blk_new _ _) _ rfl rfl rfl (by intro q_ hq_; simp at hq_; rcases hq_ with rfl | rfl | rfl | rfl | rfl | rfl | rfl | rfl <;> first | rfl | exact hcv) ?_; intro w2 hb5 hgr; have B5 := Aside0.mk hb5; have HG := Aside0.mk hgr; clear hb5 hgr; replace B2 := Aside0.mk ((HG.out.block g2 (by simp; omega) (by intro e; injection e with e; omega)).trans (blk_alloc B2.out _)); replace B3 := Aside0.mk ((HG.out.block g3 (by simp; omega) (by intro e; injection e with e; omega)).trans (blk_alloc B3.out _)); replace HB := Aside0.mk ((below_alloc HB.out _).grown HG.out (by have := HB.out.size; simp; omega) (fun k hk => by cases hk; exact HB.out.size)); have HW := Aside0.mk ((below_alloc (Below.refl _ _) _).grown HG.out (by simp) (fun k hk => by cases hk; exact Nat.le_refl _) : Below w1.heap.size w1 w2); have FC2 := Aside0.mk (OptStr.later FC.out HW.out); clear FC; have FC := FC2; clear FC2; obtain ⟨g5, hg5⟩ : ∃ g, g = w1.heap.size := ⟨_, rfl⟩; rw [← hg5] at B5 HG; rw [← hg5]; clear hg5 HG; have c20 := (blk_cell B2.out 0).trans rfl; have c30 := (blk_cell B3.out 0).trans rfl; have c31 := (blk_cell B3.out 1).trans rfl; have c32 := (blk_cell B3.out 2).trans rfl; have c33 := (blk_cell B3.out 3).trans rfl; have c34 := (blk_cell B3.out 4).trans rfl; have c50 := (blk_cell B5.out 0).trans rfl; have c51 := (blk_cell B5.out 1).trans rfl; have c52 := (blk_cell B5.out 2).trans rfl; have c53 := (blk_cell B5.out 3).trans rfl; have c54 := (blk_cell B5.out 4).trans rfl; have c55 := (blk_cell B5.out 5).trans rfl; have c56 := (blk_cell B5.out 6).trans rfl; have c57 := (blk_cell B5.out 7).trans rfl)
         go_ret
         exact ⟨by rw [HF.out]; simp [HZ.out], HB.out⟩
       | true =>
         have hz' : x.f1.toList = [] := List.isEmpty_iff.1 hz
         have HZ := Aside0.mk (HNO.out.trans hz)
         clear HNO hz
         rw [HZ.out, Bool.true_and] at HF
         clear HZ
         have HNM := Aside0.mk (show numOk u x.f2 = q' x.f2 by unfold numOk; rw [hum])
         clear hum
         have hcall := fun W => hcm W x.f2
         clear hcm
         rw [HNM.out] at HF
         clear HNM
         generalize q' x.f2 = b at hcall HF
         go_wp2_with ((with_reducible refine gate_store (t := 141) (p := 5) rfl ?_); refine store_whole rfl rfl 141 _ _ rfl w1.heap.size _ 141 rfl (blk_new _ _) _ rfl rfl rfl (by intro q_ hq_; simp at hq_; rcases hq_ with rfl | rfl | rfl | rfl | rfl | rfl | rfl | rfl <;> first | rfl | exact hcv) ?_; intro w2 hb5 hgr; have B5 := Aside0.mk hb5; have HG := Aside0.mk hgr; clear hb5 hgr; replace B2 := Aside0.mk ((HG.out.block g2 (by simp; omega) (by intro e; injection e with e; omega)).trans (blk_alloc B2.out _)); replace B3 := Aside0.mk ((HG.out.block g3 (by simp; omega) (by intro e; injection e with e; omega)).trans (blk_alloc B3.out _)); replace HB := Aside0.mk ((below_alloc HB.out _).grown HG.out (by have := HB.out.size; simp; omega) (fun k hk => by cases hk; exact HB.out.size)); have HW := Aside0.mk ((below_alloc (Below.refl _ _) _).grown HG.out (by simp) (fun k hk => by cases hk; exact Nat.le_refl _) : Below w1.heap.size w1 w2); have FC2 := Aside0.mk (OptStr.later FC.out HW.out); clear FC; have FC := FC2; clear FC2; obtain ⟨g5, hg5⟩ : ∃ g, g = w1.heap.size := ⟨_, rfl⟩; rw [← hg5] at B5 HG; rw [← hg5]; clear hg5 HG; have c20 := (blk_cell B2.out 0).trans rfl; have c30 := (blk_cell B3.out 0).trans rfl; have c31 := (blk_cell B3.out 1).trans rfl; have c32 := (blk_cell B3.out 2).trans rfl; have c33 := (blk_cell B3.out 3).trans rfl; have c34 := (blk_cell B3.out 4).trans rfl; have c50 := (blk_cell B5.out 0).trans rfl; have c51 := (blk_cell B5.out 1).trans rfl; have c52 := (blk_cell B5.out 2).trans rfl; have c53 := (blk_cell B5.out 3).trans rfl; have c54 := (blk_cell B5.out 4).trans rfl; have c55 := (blk_cell B5.out 5).trans rfl; have c56 := (blk_cell B5.out 6).trans rfl; have c57 := (blk_cell B5.out 7).trans rfl)
         refine (hcall _).mono ?_
         rintro e w3 ⟨rfl, hb⟩
         have FC3 := Aside0.mk (OptStr.later FC.out hb)
         clear FC
         have FC := FC3
         clear FC3 hcall c20 c30 c31 c32 c33 c34 c50 c51 c52 c53 c54 c55 c56 c57
         replace B2 := Aside0.mk (below_blk B2.out hb)
         replace B3 := Aside0.mk (below_blk B3.out hb)
         replace B5 := Aside0.mk (below_blk B5.out hb)
         replace HB := Aside0.mk (below_step HB.out hb)
         clear hb
         cases b with
         | false =>
           have c20 := (blk_cell B2.out 0).trans rfl
           have c30 := (blk_cell B3.out 0).trans rfl
           have c31 := (blk_cell B3.out 1).trans rfl
           have c32 := (blk_cell B3.out 2).trans rfl
           have c33 := (blk_cell B3.out 3).trans rfl
           have c34 := (blk_cell B3.out 4).trans rfl
           have c50 := (blk_cell B5.out 0).trans rfl
           have c51 := (blk_cell B5.out 1).trans rfl
           have c52 := (blk_cell B5.out 2).trans rfl
           have c53 := (blk_cell B5.out 3).trans rfl
           have c54 := (blk_cell B5.out 4).trans rfl
           have c55 := (blk_cell B5.out 5).trans rfl
           have c56 := (blk_cell B5.out 6).trans rfl
           have c57 := (blk_cell B5.out 7).trans rfl
           go_wp2_with fail
           go_ret
           exact ⟨by rw [HF.out]; simp, HB.out⟩
         | true =>
           rw [Bool.true_and] at HF
           have c20 := (blk_cell B2.out 0).trans rfl
           have c30 := (blk_cell B3.out 0).trans rfl
           have c31 := (blk_cell B3.out 1).trans rfl
           have c32 := (blk_cell B3.out 2).trans rfl
           have c33 := (blk_cell B3.out 3).trans rfl
           have c34 := (blk_cell B3.out 4).trans rfl
           have c50 := (blk_cell B5.out 0).trans rfl
           have c51 := (blk_cell B5.out 1).trans rfl
           have c52 := (blk_cell B5.out 2).trans rfl
           have c53 := (blk_cell B5.out 3).trans rfl
           have c54 := (blk_cell B5.out 4).trans rfl
           have c55 := (blk_cell B5.out 5).trans rfl
           have c56 := (blk_cell B5.out 6).trans rfl
           have c57 := (blk_cell B5.out 7).trans rfl
           go_wp2_with fail
           refine (all_callsD _ _ _ _ (cons_fn _ u _ _ v2 _ _ _ _ _ FC.out g5 B5.out) A3 c3 x.f3 (Kd.C_below G3.out HB.out) u.least u.most (fun hl s hs => HD.out hl s hs) _ (Below.refl _ _)).mono ?_
           rintro e w4 ⟨rfl, hb⟩
           replace B2 := Aside0.mk (below_blk B2.out hb)
           replace B3 := Aside0.mk (below_blk B3.out hb)
           replace B5 := Aside0.mk (below_blk B5.out hb)
           replace HB := Aside0.mk (below_step HB.out hb)
           clear hb
           clear FC HD
           generalize allB x.f3 u.least u.most (consF u) = ab at HF ⊢
           cases ab with
           | false =>
             have c20 := (blk_cell B2.out 0).trans rfl
             have c30 := (blk_cell B3.out 0).trans rfl
             have c31 := (blk_cell B3.out 1).trans rfl
             have c32 := (blk_cell B3.out 2).trans rfl
             have c33 := (blk_cell B3.out 3).trans rfl
             have c34 := (blk_cell B3.out 4).trans rfl
             have c50 := (blk_cell B5.out 0).trans rfl
             have c51 := (blk_cell B5.out 1).trans rfl
             have c52 := (blk_cell B5.out 2).trans rfl
             have c53 := (blk_cell B5.out 3).trans rfl
             have c54 := (blk_cell B5.out 4).trans rfl
             have c55 := (blk_cell B5.out 5).trans rfl
             have c56 := (blk_cell B5.out 6).trans rfl
             have c57 := (blk_cell B5.out 7).trans rfl
             go_wp2_with fail
             go_ret
             exact ⟨by rw [HF.out]; simp, HB.out⟩
           | true =>
             by_cases k1 : (x.f4.length : Int) < u.kids
             · have d1 : decide ((x.f4.length : Int) < u.kids) = true := decide_eq_true k1
               have d1' : decide (u.kids ≤ (x.f4.length : Int)) = false := decide_eq_false (by omega)
               have c20 := (blk_cell B2.out 0).trans rfl
               have c30 := (blk_cell B3.out 0).trans rfl
               have c31 := (blk_cell B3.out 1).trans rfl
               have c32 := (blk_cell B3.out 2).trans rfl
               have c33 := (blk_cell B3.out 3).trans rfl
               have c34 := (blk_cell B3.out 4).trans rfl
               have c50 := (blk_cell B5.out 0).trans rfl
               have c51 := (blk_cell B5.out 1).trans rfl
               have c52 := (blk_cell B5.out 2).trans rfl
               have c53 := (blk_cell B5.out 3).trans rfl
               have c54 := (blk_cell B5.out 4).trans rfl
               have c55 := (blk_cell B5.out 5).trans rfl
               have c56 := (blk_cell B5.out 6).trans rfl
               have c57 := (blk_cell B5.out 7).trans rfl
               go_wp2_with fail
               go_ret
               exact ⟨by rw [HF.out]; simp [kidsOk, d1'], HB.out⟩
             have d1 : decide ((x.f4.length : Int) < u.kids) = false := decide_eq_false k1
             have d1' := Aside0.mk (decide_eq_true (show u.kids ≤ (x.f4.length : Int) by omega))
             by_cases k2 : (x.f4.length : Int) > u.many
             · have d2 : decide ((x.f4.length : Int) > u.many) = true := decide_eq_true k2
               have d2' : decide ((x.f4.length : Int) ≤ u.many) = false := decide_eq_false (by omega)
               have c20 := (blk_cell B2.out 0).trans rfl
               have c30 := (blk_cell B3.out 0).trans rfl
               have c31 := (blk_cell B3.out 1).trans rfl
               have c32 := (blk_cell B3.out 2).trans rfl
               have c33 := (blk_cell B3.out 3).trans rfl
               have c34 := (blk_cell B3.out 4).trans rfl
               have c50 := (blk_cell B5.out 0).trans rfl
               have c51 := (blk_cell B5.out 1).trans rfl
               have c52 := (blk_cell B5.out 2).trans rfl
               have c53 := (blk_cell B5.out 3).trans rfl
               have c54 := (blk_cell B5.out 4).trans rfl
               have c55 := (blk_cell B5.out 5).trans rfl
               have c56 := (blk_cell B5.out 6).trans rfl
               have c57 := (blk_cell B5.out 7).trans rfl
               go_wp2_with fail
               go_ret
               exact ⟨by rw [HF.out]; simp [kidsOk, d2'], HB.out⟩
             have d2 : decide ((x.f4.length : Int) > u.many) = false := decide_eq_false k2
             have d2' := Aside0.mk (decide_eq_true (show (x.f4.length : Int) ≤ u.many by omega))
             have KO := Aside0.mk (show kidsOk u x.f4.length = true by unfold kidsOk; rw [d1'.out, d2'.out]; rfl)
             clear k1 k2 d1' d2'
             cases hs : sameOk u x.f3.length x.f4.length with
             | false =>
               have hsm : u.same = true := by unfold sameOk at hs; cases h : u.same <;> simp_all
               have hne : ((x.f3.length : Int) == (x.f4.length : Int)) = false := by unfold sameOk at hs; cases h : ((x.f3.length : Int) == (x.f4.length : Int)) <;> simp_all
               have hne' : ((x.f3.length : Int) != (x.f4.length : Int)) = true := by rw [bne, hne]; rfl
               have hneN : (x.f3.length != x.f4.length) = true := by rw [bne_iff_ne]; intro h; rw [h] at hne; simp at hne
               have HSM := Aside0.mk hs
               clear hs hne
               rw [hsm] at B5
               clear hsm
               have c20 := (blk_cell B2.out 0).trans rfl
               have c30 := (blk_cell B3.out 0).trans rfl
               have c31 := (blk_cell B3.out 1).trans rfl
               have c32 := (blk_cell B3.out 2).trans rfl
               have c33 := (blk_cell B3.out 3).trans rfl
               have c34 := (blk_cell B3.out 4).trans rfl
               have c50 := (blk_cell B5.out 0).trans rfl
               have c51 := (blk_cell B5.out 1).trans rfl
               have c52 := (blk_cell B5.out 2).trans rfl
               have c53 := (blk_cell B5.out 3).trans rfl
               have c54 := (blk_cell B5.out 4).trans rfl
               have c55 := (blk_cell B5.out 5).trans rfl
               have c56 := (blk_cell B5.out 6).trans rfl
               have c57 := (blk_cell B5.out 7).trans rfl
               go_wp2_with fail
               go_ret
               exact ⟨by rw [HF.out]; simp [HSM.out], HB.out⟩
             | true =>
               have HSM := Aside0.mk hs
               clear hs
               have htwo : (u.same = false) ∨ (u.same = true ∧ ((x.f3.length : Int) != (x.f4.length : Int)) = false ∧ (x.f3.length != x.f4.length) = false) := by
                 have hs := HSM.out; unfold sameOk at hs; cases h : u.same with
                 | false => exact .inl rfl
                 | true => rw [h] at hs; simp at hs; exact .inr ⟨rfl, by simp; omega, by simp; omega⟩
               have hev : (everyOk x = false ∧ (x.f0 == 15) = true ∧ ((rd_T42 x.f4 0).f0 != 14) = true) ∨ (everyOk x = true ∧ (x.f0 == 15) = true ∧ ((rd_T42 x.f4 0).f0 != 14) = false) ∨ (everyOk x = true ∧ (x.f0 == 15) = false) := by
                 unfold everyOk; cases h : (x.f0 == 15) with
                 | false => exact .inr (.inr ⟨rfl, rfl⟩)
                 | true => cases h2 : ((rd_T42 x.f4 0).f0 == 14) with
                   | false => exact .inl ⟨rfl, rfl, by rw [bne, h2]; rfl⟩
                   | true => exact .inr (.inl ⟨rfl, rfl, by rw [bne, h2]; rfl⟩)
               have hpos : (x.f0 == 15) = true → 0 < x.f4.length := fun h => HP.out (by simpa using h) (by have := KO.out; unfold kidsOk at this; simp at this; exact this.1)
               have HPOS := Aside0.mk hpos
               clear hpos
               rcases htwo with hsm | ⟨hsm, hse, hseN⟩
               all_goals
                 rw [hsm] at B5
                 clear hsm
                 rcases hev with ⟨he, h15, h14⟩ | ⟨he, h15, h14⟩ | ⟨he, h15⟩
                 · have HE := Aside0.mk he
                   clear he
                   have h0 := HPOS.out h15
                   have g4 := Kd.C_below G4.out HB.out
                   obtain ⟨ad, a3, d3, a4, d4, rfl, hx0, _⟩ := at_T42 g4 0 (by omega) (by omega)
                   rw [show (0 : Int).toNat * 5 = 0 from rfl, add_zero'] at hx0
                   clear g4
                   have c20 := (blk_cell B2.out 0).trans rfl
                   have c30 := (blk_cell B3.out 0).trans rfl
                   have c31 := (blk_cell B3.out 1).trans rfl
                   have c32 := (blk_cell B3.out 2).trans rfl
                   have c33 := (blk_cell B3.out 3).trans rfl
                   have c34 := (blk_cell B3.out 4).trans rfl
                   have c50 := (blk_cell B5.out 0).trans rfl
                   have c51 := (blk_cell B5.out 1).trans rfl
                   have c52 := (blk_cell B5.out 2).trans rfl
                   have c53 := (blk_cell B5.out 3).trans rfl
                   have c54 := (blk_cell B5.out 4).trans rfl
                   have c55 := (blk_cell B5.out 5).trans rfl
                   have c56 := (blk_cell B5.out 6).trans rfl
                   have c57 := (blk_cell B5.out 7).trans rfl
                   go_wp2_with fail
                   go_ret
                   exact ⟨by rw [HF.out]; simp [KO.out, HSM.out, HE.out], HB.out⟩
                 · have HE := Aside0.mk he
                   clear he
                   have h0 := HPOS.out h15
                   have g4 := Kd.C_below G4.out HB.out
                   obtain ⟨ad, a3, d3, a4, d4, rfl, hx0, _⟩ := at_T42 g4 0 (by omega) (by omega)
                   rw [show (0 : Int).toNat * 5 = 0 from rfl, add_zero'] at hx0
                   clear g4
                   have c20 := (blk_cell B2.out 0).trans rfl
                   have c30 := (blk_cell B3.out 0).trans rfl
                   have c31 := (blk_cell B3.out 1).trans rfl
                   have c32 := (blk_cell B3.out 2).trans rfl
                   have c33 := (blk_cell B3.out 3).trans rfl
                   have c34 := (blk_cell B3.out 4).trans rfl
                   have c50 := (blk_cell B5.out 0).trans rfl
                   have c51 := (blk_cell B5.out 1).trans rfl
                   have c52 := (blk_cell B5.out 2).trans rfl
                   have c53 := (blk_cell B5.out 3).trans rfl
                   have c54 := (blk_cell B5.out 4).trans rfl
                   have c55 := (blk_cell B5.out 5).trans rfl
                   have c56 := (blk_cell B5.out 6).trans rfl
                   have c57 := (blk_cell B5.out 7).trans rfl
                   go_wp2_with fail
                   refine (ct_Expr _ _ expr2_eg w _ (some ad) c4 x.f4 (G4.out) (fun i => !exprB made (x.f4.getD i z42)) (fun _ W' => Below w4.heap.size w4 W') (fun _ W' => Below w4.heap.size w4 W') (fun _ W' h => below_step HB.out h) ?_ (Below.refl _ _)).mono ?_
                   · intro i W' ds hi hI hKd
                     refine (expr2_calls made _ (IH.out i hi) g2 W' ds (Kd.K_below _ (below_step HB.out hI) hKd) (below_blk B2.out hI)).mono ?_
                     rintro e w' ⟨rfl, hb'⟩
                     exact ⟨rfl, fun _ => below_step hI hb', fun _ => below_step hI hb'⟩
                   · intro e w' h
                     obtain ⟨rfl, hb⟩ := CtPost.any (q := fun k => !exprB made k) (z := z42) (I := fun W' => Below w4.heap.size w4 W') h
                     clear h
                     have HX := Aside0.mk (exprsB_any made x.f4)
                     have HB' := Aside0.mk (below_step HB.out hb)
                     clear hb
                     generalize x.f4.any (fun k => !exprB made k) = r at HX ⊢
                     go_wp2_with fail
                     go_ret
                     exact ⟨by rw [HF.out, HX.out, KO.out, HSM.out, HE.out]; simp, HB'.out⟩
                 · have HE := Aside0.mk he
                   clear he
                   have c20 := (blk_cell B2.out 0).trans rfl
                   have c30 := (blk_cell B3.out 0).trans rfl
                   have c31 := (blk_cell B3.out 1).trans rfl
                   have c32 := (blk_cell B3.out 2).trans rfl
                   have c33 := (blk_cell B3.out 3).trans rfl
                   have c34 := (blk_cell B3.out 4).trans rfl
                   have c50 := (blk_cell B5.out 0).trans rfl
                   have c51 := (blk_cell B5.out 1).trans rfl
                   have c52 := (blk_cell B5.out 2).trans rfl
                   have c53 := (blk_cell B5.out 3).trans rfl
                   have c54 := (blk_cell B5.out 4).trans rfl
                   have c55 := (blk_cell B5.out 5).trans rfl
                   have c56 := (blk_cell B5.out 6).trans rfl
                   have c57 := (blk_cell B5.out 7).trans rfl
                   go_wp2_with fail
                   refine (ct_Expr _ _ expr2_eg w _ A4 c4 x.f4 (G4.out) (fun i => !exprB made (x.f4.getD i z42)) (fun _ W' => Below w4.heap.size w4 W') (fun _ W' => Below w4.heap.size w4 W') (fun _ W' h => below_step HB.out h) ?_ (Below.refl _ _)).mono ?_
                   · intro i W' ds hi hI hKd
                     refine (expr2_calls made _ (IH.out i hi) g2 W' ds (Kd.K_below _ (below_step HB.out hI) hKd) (below_blk B2.out hI)).mono ?_
                     rintro e w' ⟨rfl, hb'⟩
                     exact ⟨rfl, fun _ => below_step hI hb', fun _ => below_step hI hb'⟩
                   · intro e w' h
                     obtain ⟨rfl, hb⟩ := CtPost.any (q := fun k => !exprB made k) (z := z42) (I := fun W' => Below w4.heap.size w4 W') h
                     clear h
                     have HX := Aside0.mk (exprsB_any made x.f4)
                     have HB' := Aside0.mk (below_step HB.out hb)
                     clear hb
                     generalize x.f4.any (fun k => !exprB made k) = r at HX ⊢
                     go_wp2_with fail
                     go_ret
                     exact ⟨by rw [HF.out, HX.out, KO.out, HSM.out, HE.out]; simp, HB'.out⟩
   · obtain ⟨gn, pn, ln, rfl, egn, hcn⟩ := hq
     rcases HMV.out with ⟨hum, rfl⟩ | ⟨q', hum, hq'⟩
     · have HNO := Aside0.mk (show nameOk u x.f1 = q x.f1 by unfold nameOk; rw [hun])
       clear hun
       have hcall := fun W => hcn W x.f1
       clear hcn
       rw [HNO.out] at HF
       clear HNO
       generalize q x.f1 = b at hcall HF
       go_wp2_with ((with_reducible refine gate_store (t := 141) (p := 5) rfl ?_); refine store_whole rfl rfl 141 _ _ rfl w1.heap.size _ 141 rfl (blk_new _ _) _ rfl rfl rfl (by intro q_ hq_; simp at hq_; rcases hq_ with rfl | rfl | rfl | rfl | rfl | rfl | rfl | rfl <;> first | rfl | exact hcv) ?_; intro w2 hb5 hgr; have B5 := Aside0.mk hb5; have HG := Aside0.mk hgr; clear hb5 hgr; replace B2 := Aside0.mk ((HG.out.block g2 (by simp; omega) (by intro e; injection e with e; omega)).trans (blk_alloc B2.out _)); replace B3 := Aside0.mk ((HG.out.block g3 (by simp; omega) (by intro e; injection e with e; omega)).trans (blk_alloc B3.out _)); replace HB := Aside0.mk ((below_alloc HB.out _).grown HG.out (by have := HB.out.size; simp; omega) (fun k hk => by cases hk; exact HB.out.size)); have HW := Aside0.mk ((below_alloc (Below.refl _ _) _).grown HG.out (by simp) (fun k hk => by cases hk; exact Nat.le_refl _) : Below w1.heap.size w1 w2); have FC2 := Aside0.mk (OptStr.later FC.out HW.out); clear FC; have FC := FC2; clear FC2; obtain ⟨g5, hg5⟩ : ∃ g, g = w1.heap.size := ⟨_, rfl⟩; rw [← hg5] at B5 HG; rw [← hg5]; clear hg5 HG; have c20 := (blk_cell B2.out 0).trans rfl; have c30 := (blk_cell B3.out 0).trans rfl; have c31 := (blk_cell B3.out 1).trans rfl; have c32 := (blk_cell B3.out 2).trans rfl; have c33 := (blk_cell B3.out 3).trans rfl; have c34 := (blk_cell B3.out 4).trans rfl; have c50 := (blk_cell B5.out 0).trans rfl; have c51 := (blk_cell B5.out 1).trans rfl; have c52 := (blk_cell B5.out 2).trans rfl; have c53 := (blk_cell B5.out 3).trans rfl; have c54 := (blk_cell B5.out 4).trans rfl; have c55 := (blk_cell B5.out 5).trans rfl; have c56 := (blk_cell B5.out 6).trans rfl; have c57 := (blk_cell B5.out 7).trans rfl)
       refine (hcall _ HW.out).mono ?_
       rintro e w3 ⟨rfl, hb⟩
       have FC3 := Aside0.mk (OptStr.later FC.out hb)
       clear FC
       have FC := FC3
       clear FC3 hcall HW c20 c30 c31 c32 c33 c34 c50 c51 c52 c53 c54 c55 c56 c57
       replace B2 := Aside0.mk (below_blk B2.out hb)
       replace B3 := Aside0.mk (below_blk B3.out hb)
       replace B5 := Aside0.mk (below_blk B5.out hb)
       replace HB := Aside0.mk (below_step HB.out hb)
       clear hb
       cases b with
       | false =>
         have c20 := (blk_cell B2.out 0).trans rfl
         have c30 := (blk_cell B3.out 0).trans rfl
         have c31 := (blk_cell B3.out 1).trans rfl
         have c32 := (blk_cell B3.out 2).trans rfl
         have c33 := (blk_cell B3.out 3).trans rfl
         have c34 := (blk_cell B3.out 4).trans rfl
         have c50 := (blk_cell B5.out 0).trans rfl
         have c51 := (blk_cell B5.out 1).trans rfl
         have c52 := (blk_cell B5.out 2).trans rfl
         have c53 := (blk_cell B5.out 3).trans rfl
         have c54 := (blk_cell B5.out 4).trans rfl
         have c55 := (blk_cell B5.out 5).trans rfl
         have c56 := (blk_cell B5.out 6).trans rfl
         have c57 := (blk_cell B5.out 7).trans rfl
         go_wp2_with fail
         go_ret
         exact ⟨by rw [HF.out]; simp, HB.out⟩
       | true =>
         rw [Bool.true_and] at HF
         have HNM := Aside0.mk (show numOk u x.f2 = (x.f2 == 0) by unfold numOk; rw [hum])
         clear hum
         cases hy : (x.f2 == 0) with
         | false =>
           have hy' : (x.f2 != 0) = true := by rw [bne, hy]; rfl
           have HY := Aside0.mk (HNM.out.trans hy)
           clear HNM hy
           have c20 := (blk_cell B2.out 0).trans rfl
           have c30 := (blk_cell B3.out 0).trans rfl
           have c31 := (blk_cell B3.out 1).trans rfl
           have c32 := (blk_cell B3.out 2).trans rfl
           have c33 := (blk_cell B3.out 3).trans rfl
           have c34 := (blk_cell B3.out 4).trans rfl
           have c50 := (blk_cell B5.out 0).trans rfl
           have c51 := (blk_cell B5.out 1).trans rfl
           have c52 := (blk_cell B5.out 2).trans rfl
           have c53 := (blk_cell B5.out 3).trans rfl
           have c54 := (blk_cell B5.out 4).trans rfl
           have c55 := (blk_cell B5.out 5).trans rfl
           have c56 := (blk_cell B5.out 6).trans rfl
           have c57 := (blk_cell B5.out 7).trans rfl
           go_wp2_with fail
           go_ret
           exact ⟨by rw [HF.out]; simp [HY.out], HB.out⟩
         | true =>
           have hy' : (x.f2 != 0) = false := by rw [bne, hy]; rfl
           have HY := Aside0.mk (HNM.out.trans hy)
           clear HNM hy
           rw [HY.out, Bool.true_and] at HF
           clear HY
           have c20 := (blk_cell B2.out 0).trans rfl
           have c30 := (blk_cell B3.out 0).trans rfl
           have c31 := (blk_cell B3.out 1).trans rfl
           have c32 := (blk_cell B3.out 2).trans rfl
           have c33 := (blk_cell B3.out 3).trans rfl
           have c34 := (blk_cell B3.out 4).trans rfl
           have c50 := (blk_cell B5.out 0).trans rfl
           have c51 := (blk_cell B5.out 1).trans rfl
           have c52 := (blk_cell B5.out 2).trans rfl
           have c53 := (blk_cell B5.out 3).trans rfl
           have c54 := (blk_cell B5.out 4).trans rfl
           have c55 := (blk_cell B5.out 5).trans rfl
           have c56 := (blk_cell B5.out 6).trans rfl
           have c57 := (blk_cell B5.out 7).trans rfl
           go_wp2_with fail
           refine (all_callsD _ _ _ _ (cons_fn _ u _ _ v2 _ _ _ _ _ FC.out g5 B5.out) A3 c3 x.f3 (Kd.C_below G3.out HB.out) u.least u.most (fun hl s hs => HD.out hl s hs) _ (Below.refl _ _)).mono ?_
           rintro e w4 ⟨rfl, hb⟩
           replace B2 := Aside0.mk (below_blk B2.out hb)
           replace B3 := Aside0.mk (below_blk B3.out hb)
           replace B5 := Aside0.mk (below_blk B5.out hb)
           replace HB := Aside0.mk (below_step HB.out hb)
           clear hb
           clear FC HD
           generalize allB x.f3 u.least u.most (consF u) = ab at HF ⊢
           cases ab with
           | false =>
             have c20 := (blk_cell B2.out 0).trans rfl
             have c30 := (blk_cell B3.out 0).trans rfl
             have c31 := (blk_cell B3.out 1).trans rfl
             have c32 := (blk_cell B3.out 2).trans rfl
             have c33 := (blk_cell B3.out 3).trans rfl
             have c34 := (blk_cell B3.out 4).trans rfl
             have c50 := (blk_cell B5.out 0).trans rfl
             have c51 := (blk_cell B5.out 1).trans rfl
             have c52 := (blk_cell B5.out 2).trans rfl
             have c53 := (blk_cell B5.out 3).trans rfl
             have c54 := (blk_cell B5.out 4).trans rfl
             have c55 := (blk_cell B5.out 5).trans rfl
             have c56 := (blk_cell B5.out 6).trans rfl
             have c57 := (blk_cell B5.out 7).trans rfl
             go_wp2_with fail
             go_ret
             exact ⟨by rw [HF.out]; simp, HB.out⟩
           | true =>
             by_cases k1 : (x.f4.length : Int) < u.kids
             · have d1 : decide ((x.f4.length : Int) < u.kids) = true := decide_eq_true k1
               have d1' : decide (u.kids ≤ (x.f4.length : Int)) = false := decide_eq_false (by omega)
               have c20 := (blk_cell B2.out 0).trans rfl
               have c30 := (blk_cell B3.out 0).trans rfl
               have c31 := (blk_cell B3.out 1).trans rfl
               have c32 := (blk_cell B3.out 2).trans rfl
               have c33 := (blk_cell B3.out 3).trans rfl
               have c34 := (blk_cell B3.out 4).trans rfl
               have c50 := (blk_cell B5.out 0).trans rfl
               have c51 := (blk_cell B5.out 1).trans rfl
               have c52 := (blk_cell B5.out 2).trans rfl
               have c53 := (blk_cell B5.out 3).trans rfl
               have c54 := (blk_cell B5.out 4).trans rfl
               have c55 := (blk_cell B5.out 5).trans rfl
               have c56 := (blk_cell B5.out 6).trans rfl
               have c57 := (blk_cell B5.out 7).trans rfl
               go_wp2_with fail
               go_ret
               exact ⟨by rw [HF.out]; simp [kidsOk, d1'], HB.out⟩
             have d1 : decide ((x.f4.length : Int) < u.kids) = false := decide_eq_false k1
             have d1' := Aside0.mk (decide_eq_true (show u.kids ≤ (x.f4.length : Int) by omega))
             by_cases k2 : (x.f4.length : Int) > u.many
             · have d2 : decide ((x.f4.length : Int) > u.many) = true := decide_eq_true k2
               have d2' : decide ((x.f4.length : Int) ≤ u.many) = false := decide_eq_false (by omega)
               have c20 := (blk_cell B2.out 0).trans rfl
               have c30 := (blk_cell B3.out 0).trans rfl
               have c31 := (blk_cell B3.out 1).trans rfl
               have c32 := (blk_cell B3.out 2).trans rfl
               have c33 := (blk_cell B3.out 3).trans rfl
               have c34 := (blk_cell B3.out 4).trans rfl
               have c50 := (blk_cell B5.out 0).trans rfl
               have c51 := (blk_cell B5.out 1).trans rfl
               have c52 := (blk_cell B5.out 2).trans rfl
               have c53 := (blk_cell B5.out 3).trans rfl
               have c54 := (blk_cell B5.out 4).trans rfl
               have c55 := (blk_cell B5.out 5).trans rfl
               have c56 := (blk_cell B5.out 6).trans rfl
               have c57 := (blk_cell B5.out 7).trans rfl
               go_wp2_with fail
               go_ret
               exact ⟨by rw [HF.out]; simp [kidsOk, d2'], HB.out⟩
             have d2 : decide ((x.f4.length : Int) > u.many) = false := decide_eq_false k2
             have d2' := Aside0.mk (decide_eq_true (show (x.f4.length : Int) ≤ u.many by omega))
             have KO := Aside0.mk (show kidsOk u x.f4.length = true by unfold kidsOk; rw [d1'.out, d2'.out]; rfl)
             clear k1 k2 d1' d2'
             cases hs : sameOk u x.f3.length x.f4.length with
             | false =>
               have hsm : u.same = true := by unfold sameOk at hs; cases h : u.same <;> simp_all
               have hne : ((x.f3.length : Int) == (x.f4.length : Int)) = false := by unfold sameOk at hs; cases h : ((x.f3.length : Int) == (x.f4.length : Int)) <;> simp_all
               have hne' : ((x.f3.length : Int) != (x.f4.length : Int)) = true := by rw [bne, hne]; rfl
               have hneN : (x.f3.length != x.f4.length) = true := by rw [bne_iff_ne]; intro h; rw [h] at hne; simp at hne
               have HSM := Aside0.mk hs
               clear hs hne
               rw [hsm] at B5
               clear hsm
               have c20 := (blk_cell B2.out 0).trans rfl
               have c30 := (blk_cell B3.out 0).trans rfl
               have c31 := (blk_cell B3.out 1).trans rfl
               have c32 := (blk_cell B3.out 2).trans rfl
               have c33 := (blk_cell B3.out 3).trans rfl
               have c34 := (blk_cell B3.out 4).trans rfl
               have c50 := (blk_cell B5.out 0).trans rfl
               have c51 := (blk_cell B5.out 1).trans rfl
               have c52 := (blk_cell B5.out 2).trans rfl
               have c53 := (blk_cell B5.out 3).trans rfl
               have c54 := (blk_cell B5.out 4).trans rfl
               have c55 := (blk_cell B5.out 5).trans rfl
               have c56 := (blk_cell B5.out 6).trans rfl
               have c57 := (blk_cell B5.out 7).trans rfl
               go_wp2_with fail
               go_ret
               exact ⟨by rw [HF.out]; simp [HSM.out], HB.out⟩
             | true =>
               have HSM := Aside0.mk hs
               clear hs
               have htwo : (u.same = false) ∨ (u.same = true ∧ ((x.f3.length : Int) != (x.f4.length : Int)) = false ∧ (x.f3.length != x.f4.length) = false) := by
                 have hs := HSM.out; unfold sameOk at hs; cases h : u.same with
                 | false => exact .inl rfl
                 | true => rw [h] at hs; simp at hs; exact .inr ⟨rfl, by simp; omega, by simp; omega⟩
               have hev : (everyOk x = false ∧ (x.f0 == 15) = true ∧ ((rd_T42 x.f4 0).f0 != 14) = true) ∨ (everyOk x = true ∧ (x.f0 == 15) = true ∧ ((rd_T42 x.f4 0).f0 != 14) = false) ∨ (everyOk x = true ∧ (x.f0 == 15) = false) := by
                 unfold everyOk; cases h : (x.f0 == 15) with
                 | false => exact .inr (.inr ⟨rfl, rfl⟩)
                 | true => cases h2 : ((rd_T42 x.f4 0).f0 == 14) with
                   | false => exact .inl ⟨rfl, rfl, by rw [bne, h2]; rfl⟩
                   | true => exact .inr (.inl ⟨rfl, rfl, by rw [bne, h2]; rfl⟩)
               have hpos : (x.f0 == 15) = true → 0 < x.f4.length := fun h => HP.out (by simpa using h) (by have := KO.out; unfold kidsOk at this; simp at this; exact this.1)
               have HPOS := Aside0.mk hpos
               clear hpos
               rcases htwo with hsm | ⟨hsm, hse, hseN⟩
               all_goals
                 rw [hsm] at B5
                 clear hsm
                 rcases hev with ⟨he, h15, h14⟩ | ⟨he, h15, h14⟩ | ⟨he, h15⟩
                 · have HE := Aside0.mk he
                   clear he
                   have h0 := HPOS.out h15
                   have g4 := Kd.C_below G4.out HB.out
                   obtain ⟨ad, a3, d3, a4, d4, rfl, hx0, _⟩ := at_T42 g4 0 (by omega) (by omega)
                   rw [show (0 : Int).toNat * 5 = 0 from rfl, add_zero'] at hx0
                   clear g4
                   have c20 := (blk_cell B2.out 0).trans rfl
                   have c30 := (blk_cell B3.out 0).trans rfl
                   have c31 := (blk_cell B3.out 1).trans rfl
                   have c32 := (blk_cell B3.out 2).trans rfl
                   have c33 := (blk_cell B3.out 3).trans rfl
                   have c34 := (blk_cell B3.out 4).trans rfl
                   have c50 := (blk_cell B5.out 0).trans rfl
                   have c51 := (blk_cell B5.out 1).trans rfl
                   have c52 := (blk_cell B5.out 2).trans rfl
                   have c53 := (blk_cell B5.out 3).trans rfl
                   have c54 := (blk_cell B5.out 4).trans rfl
                   have c55 := (blk_cell B5.out 5).trans rfl
                   have c56 := (blk_cell B5.out 6).trans rfl
                   have c57 := (blk_cell B5.out 7).trans rfl
                   go_wp2_with fail
                   go_ret
                   exact ⟨by rw [HF.out]; simp [KO.out, HSM.out, HE.out], HB.out⟩
                 · have HE := Aside0.mk he
                   clear he
                   have h0 := HPOS.out h15
                   have g4 := Kd.C_below G4.out HB.out
                   obtain ⟨ad, a3, d3, a4, d4, rfl, hx0, _⟩ := at_T42 g4 0 (by omega) (by omega)
                   rw [show (0 : Int).toNat * 5 = 0 from rfl, add_zero'] at hx0
                   clear g4
                   have c20 := (blk_cell B2.out 0).trans rfl
                   have c30 := (blk_cell B3.out 0).trans rfl
                   have c31 := (blk_cell B3.out 1).trans rfl
                   have c32 := (blk_cell B3.out 2).trans rfl
                   have c33 := (blk_cell B3.out 3).trans rfl
                   have c34 := (blk_cell B3.out 4).trans rfl
                   have c50 := (blk_cell B5.out 0).trans rfl
                   have c51 := (blk_cell B5.out 1).trans rfl
                   have c52 := (blk_cell B5.out 2).trans rfl
                   have c53 := (blk_cell B5.out 3).trans rfl
                   have c54 := (blk_cell B5.out 4).trans rfl
                   have c55 := (blk_cell B5.out 5).trans rfl
                   have c56 := (blk_cell B5.out 6).trans rfl
                   have c57 := (blk_cell B5.out 7).trans rfl
                   go_wp2_with fail
                   refine (ct_Expr _ _ expr2_eg w _ (some ad) c4 x.f4 (G4.out) (fun i => !exprB made (x.f4.getD i z42)) (fun _ W' => Below w4.heap.size w4 W') (fun _ W' => Below w4.heap.size w4 W') (fun _ W' h => below_step HB.out h) ?_ (Below.refl _ _)).mono ?_
                   · intro i W' ds hi hI hKd
                     refine (expr2_calls made _ (IH.out i hi) g2 W' ds (Kd.K_below _ (below_step HB.out hI) hKd) (below_blk B2.out hI)).mono ?_
                     rintro e w' ⟨rfl, hb'⟩
                     exact ⟨rfl, fun _ => below_step hI hb', fun _ => below_step hI hb'⟩
                   · intro e w' h
                     obtain ⟨rfl, hb⟩ := CtPost.any (q := fun k => !exprB made k) (z := z42) (I := fun W' => Below w4.heap.size w4 W') h
                     clear h
                     have HX := Aside0.mk (exprsB_any made x.f4)
                     have HB' := Aside0.mk (below_step HB.out hb)
                     clear hb
                     generalize x.f4.any (fun k => !exprB made k) = r at HX ⊢
                     go_wp2_with fail
                     go_ret
                     exact ⟨by rw [HF.out, HX.out, KO.out, HSM.out, HE.out]; simp, HB'.out⟩
                 · have HE := Aside0.mk he
                   clear he
                   have c20 := (blk_cell B2.out 0).trans rfl
                   have c30 := (blk_cell B3.out 0).trans rfl
                   have c31 := (blk_cell B3.out 1).trans rfl
                   have c32 := (blk_cell B3.out 2).trans rfl
                   have c33 := (blk_cell B3.out 3).trans rfl
                   have c34 := (blk_cell B3.out 4).trans rfl
                   have c50 := (blk_cell B5.out 0).trans rfl
                   have c51 := (blk_cell B5.out 1).trans rfl
                   have c52 := (blk_cell B5.out 2).trans rfl
                   have c53 := (blk_cell B5.out 3).trans rfl
                   have c54 := (blk_cell B5.out 4).trans rfl
                   have c55 := (blk_cell B5.out 5).trans rfl
                   have c56 := (blk_cell B5.out 6).trans rfl
                   have c57 := (blk_cell B5.out 7).trans rfl
                   go_wp2_with fail
                   refine (ct_Expr _ _ expr2_eg w _ A4 c4 x.f4 (G4.out) (fun i => !exprB made (x.f4.getD i z42)) (fun _ W' => Below w4.heap.size w4 W') (fun _ W' => Below w4.heap.size w4 W') (fun _ W' h => below_step HB.out h) ?_ (Below.refl _ _)).mono ?_
                   · intro i W' ds hi hI hKd
                     refine (expr2_calls made _ (IH.out i hi) g2 W' ds (Kd.K_below _ (below_step HB.out hI) hKd) (below_blk B2.out hI)).mono ?_
                     rintro e w' ⟨rfl, hb'⟩
                     exact ⟨rfl, fun _ => below_step hI hb', fun _ => below_step hI hb'⟩
                   · intro e w' h
                     obtain ⟨rfl, hb⟩ := CtPost.any (q := fun k => !exprB made k) (z := z42) (I := fun W' => Below w4.heap.size w4 W') h
                     clear h
                     have HX := Aside0.mk (exprsB_any made x.f4)
                     have HB' := Aside0.mk (below_step HB.out hb)
                     clear hb
                     generalize x.f4.any (fun k => !exprB made k) = r at HX ⊢
                     go_wp2_with fail
                     go_ret
                     exact ⟨by rw [HF.out, HX.out, KO.out, HSM.out, HE.out]; simp, HB'.out⟩
     · rcases HONE.out with h | h
       · rw [h] at hun; exact absurd hun (by simp)
       · rw [h] at hum; exact absurd hum (by simp)
theorem expr_says (made : Bool) (n : Nat) : ∀ x : S42, SizeOf.sizeOf x ≤ n → ExprSays made x := by
 induction n with
 | zero => intro x h; exfalso; cases x; simp only [S42.mk.sizeOf_spec] at h; omega
 | succ n ih => intro x h; exact expr_step made x (fun i hi => ih _ (by have := sizeOf_kid x i hi; omega))
theorem expr_calls (made : Bool) (x : S42) (w : World) (cs : List Value) (hK : k42.K w x cs) :
 Calls Tryz.prog 112 #[.agg #[.bool made], .agg cs.toArray] w fun e w' => e = .returned (.bool (exprB made x)) ∧ Below w.heap.size w w' := expr_says made _ x (Nat.le_refl _) w cs hK
end Go.Proofs.YtggfnbnochmkdaaGreat
