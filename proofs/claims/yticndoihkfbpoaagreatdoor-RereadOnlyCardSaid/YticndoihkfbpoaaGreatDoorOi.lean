/- What is read has just the words that it was read of: statements, functions, texts. Plain Lean. -/
import Derived.Test.YticndoihkfbpoaaGreatDoorOh
namespace Go.Proofs.YticndoihkfbpoaaGreatDoor
open Go Go.RowKit Go.Lib Go.Proofs.YticndoihkfbpoaaGreatDoorW.PrintWords Go.Proofs.YticndoihkfbpoaaGreatDoor.PScope
set_option maxRecDepth 100000
set_option linter.unusedSimpArgs false
set_option linter.unusedVariables false
section
variable {ws : List ByteArray} {k k1 k2 k' : Nat} {us vs : List ByteArray}
theorem no_12 {a : Int} (h1 : decide (a = 1) = false) (h2 : decide (a = 2) = false) (h : a = 1 ∨ a = 2) : False := by
 rcases h with h | h
 ·exact of_decide_eq_false h1 h
 ·exact of_decide_eq_false h2 h
theorem no_3 {a : Int} (h1 : decide (a = 3) = false) (h : a = 3) : False := of_decide_eq_false h1 h
theorem in64_of {n : Int} (h : 0 ≤ n ∧ n ≤ 9223372036854775807) : In64 n := ⟨by omega, h.2⟩
theorem in64_0 : In64 0 := ⟨by decide, by decide⟩
theorem seg_call {c : Int × Int} (h : callR ws k = .ok (c, k')) : Seg ws k (callW c.1 c.2) k' ∧ In64 c.1 ∧ In64 c.2 := by
 unfold callR at h
 cases h0 : numberR ws k with
 | error f => rw [h0] at h; cases h
 | ok x =>
  rw [h0] at h
  obtain ⟨x, k1⟩ := x
  simp only at h
  cases h1 : wantR ws opnS k1 with
  | error f => rw [h1] at h; cases h
  | ok k2 =>
   rw [h1] at h
   simp only at h
   cases h2 : numberR ws k2 with
   | error f => rw [h2] at h; cases h
   | ok y =>
    rw [h2] at h
    obtain ⟨y, k3⟩ := y
    simp only at h
    cases h3 : wantR ws clsS k3 with
    | error f => rw [h3] at h; cases h
    | ok k4 =>
     rw [h3] at h
     injection h with h
     injection h with e1 e2
     subst e1; subst e2
     obtain ⟨s0, b0⟩ := seg_number h0
     obtain ⟨s2, b2⟩ := seg_number h2
     exact ⟨((s0.trans (seg_want h1)).trans s2).trans (seg_want h3), in64_of b0, in64_of b2⟩
def ShS (s : FS) : Prop := (s.op = 1 ∨ s.op = 2 → ExSh s.e) ∧ (s.op = 3 → ∀ x ∈ s.args, ExSh x) ∧ (In64 s.pos ∧ In64 s.fn) ∧ (∀ a ∈ s.arms, In64 a.1) ∧ ∀ a ∈ s.arms, FsSh a.2
theorem sh_of {l : List FS} (h : ∀ s ∈ l, ShS s) : FsSh l := ⟨l, fun s hs => (h s hs).1, fun s hs => (h s hs).2.1, fun s hs => (h s hs).2.2.1, fun s hs => (h s hs).2.2.2.1, fun s hs => (h s hs).2.2.2.2⟩
def BlkOk (blk : Rd (List FS)) (ws : List ByteArray) : Prop := ∀ {k b k'}, blk k = .ok (b, k') → Seg ws k (wL b) k' ∧ FsSh b
theorem seg_choice {blk : Rd (List FS)} (hb : BlkOk blk ws) {s : FS} (h : choiceR ws blk k = .ok (s, k')) : (∃ us, wS s = [switchS] ++ us ∧ Seg ws k us k') ∧ ShS s := by
 unfold choiceR at h
 cases h0 : nameR ws k with
 | error f => rw [h0] at h; cases h
 | ok n =>
  rw [h0] at h
  obtain ⟨n, k1⟩ := n
  simp only at h
  cases h1 : tillR ws (armR ws blk) [] k1 with
  | error f => rw [h1] at h; cases h
  | ok a =>
   rw [h1] at h
   obtain ⟨a, k2⟩ := a
   injection h with h
   injection h with e1 e2
   subst e1; subst e2
   obtain ⟨s0, _⟩ := seg_name h0
   obtain ⟨⟨us, s1, e1⟩, hp⟩ := seg_till (WS := wA) (P := fun l => ∀ a ∈ l, In64 a.1 ∧ FsSh a.2) (read := armR ws blk) (fun {l k l' k'} hp hr => by
    unfold armR at hr
    cases g0 : wantR ws caseS k with
    | error f => rw [g0] at hr; cases hr
    | ok j1 =>
     rw [g0] at hr
     simp only at hr
     cases g1 : numberR ws j1 with
     | error f => rw [g1] at hr; cases hr
     | ok x =>
      rw [g1] at hr
      obtain ⟨x, j2⟩ := x
      simp only at hr
      cases g2 : blk j2 with
      | error f => rw [g2] at hr; cases hr
      | ok b =>
       rw [g2] at hr
       obtain ⟨b, j3⟩ := b
       injection hr with hr
       injection hr with e1 e2
       subst e1; subst e2
       obtain ⟨t1, b1⟩ := seg_number g1
       obtain ⟨t2, b2⟩ := hb g2
       refine ⟨⟨[caseS, itoaB x] ++ wL b, ((seg_want g0).trans t1).trans t2, ?_⟩, fun a ha => ?_⟩
       ·rw [wA_app, wA, wA, List.append_nil, wP_eq]
       ·rcases List.mem_append.1 ha with ha | ha
        ·exact hp a ha
        ·rw [List.mem_singleton.1 ha]; exact ⟨in64_of b1, b2⟩) (fun a ha => by cases ha) h1
   rw [show wA [] = [] from by rw [wA], List.nil_append] at e1
   refine ⟨⟨[n] ++ ([braS] ++ us ++ [ketS]), ?_, s0.trans s1⟩, fun h => (no_12 (a := 5) rfl rfl h).elim, fun h => (no_3 (a := 5) rfl h).elim, ⟨in64_0, in64_0⟩, fun a ha => (hp a ha).1, fun a ha => (hp a ha).2⟩
   rw [wS_eq]
   show [switchS, n, braS] ++ wA a ++ [ketS] = _
   rw [e1]
   simp
theorem seg_plain {ex : Rd S38} (hx : ∀ {k e k'}, ex k = .ok (e, k') → Seg ws k (wE e) k' ∧ ExSh e) {s : FS} (h : plainR ws ex k = .ok (s, k')) : (∃ us, wS s = us ++ [semS] ∧ Seg ws k us k') ∧ ShS s := by
 unfold plainR at h
 split at h
 ·rename_i ht
  cases h0 : cellR ws (k + 1) with
  | error f => rw [h0] at h; cases h
  | ok n =>
   rw [h0] at h
   obtain ⟨n, k1⟩ := n
   simp only at h
   cases h1 : wantR ws eqS k1 with
   | error f => rw [h1] at h; cases h
   | ok k2 =>
    rw [h1] at h
    simp only at h
    cases h2 : ex k2 with
    | error f => rw [h2] at h; cases h
    | ok x =>
     rw [h2] at h
     obtain ⟨x, k3⟩ := x
     injection h with h
     injection h with e1 e2
     subst e1; subst e2
     obtain ⟨s0, b0⟩ := seg_cell h0
     obtain ⟨s2, x2⟩ := hx h2
     refine ⟨⟨[memS] ++ [sqoS, itoaB n, sqcS] ++ [eqS] ++ wE x, ?_, (((seg_takes ht).trans s0).trans (seg_want h1)).trans s2⟩, fun _ => x2, fun h => (no_3 (a := 2) rfl h).elim, ⟨in64_of b0, in64_0⟩, fun a ha => (by cases ha), fun a ha => (by cases ha)⟩
     rw [wS_eq]
     show [memS, sqoS] ++ [itoaB n] ++ [sqcS, eqS] ++ wE x ++ [semS] = _
     simp
 ·split at h
  ·rename_i ht
   cases h0 : callR ws (k + 1) with
   | error f => rw [h0] at h; cases h
   | ok c =>
    rw [h0] at h
    obtain ⟨c, k1⟩ := c
    injection h with h
    injection h with e1 e2
    subst e1; subst e2
    obtain ⟨s0, b0, b1⟩ := seg_call h0
    refine ⟨⟨[resetS] ++ callW c.1 c.2, ?_, (seg_takes ht).trans s0⟩, fun h => (no_12 (a := 4) rfl rfl h).elim, fun h => (no_3 (a := 4) rfl h).elim, ⟨b1, b0⟩, fun a ha => (by cases ha), fun a ha => (by cases ha)⟩
    rw [wS_eq]
    rfl
  ·split at h
   ·rename_i hn
    cases h0 : listR ws (nameR ws) k with
    | error f => rw [h0] at h; cases h
    | ok ns =>
     rw [h0] at h
     obtain ⟨ns, k1⟩ := ns
     simp only at h
     cases h1 : wantR ws eqS k1 with
     | error f => rw [h1] at h; cases h
     | ok k2 =>
      rw [h1] at h
      simp only at h
      cases h2 : wantR ws stepS k2 with
      | error f => rw [h2] at h; cases h
      | ok k3 =>
       rw [h2] at h
       simp only at h
       cases h3 : callR ws k3 with
       | error f => rw [h3] at h; cases h
       | ok c =>
        rw [h3] at h
        obtain ⟨c, k4⟩ := c
        simp only at h
        cases h4 : listR ws ex k4 with
        | error f => rw [h4] at h; cases h
        | ok ar =>
         rw [h4] at h
         obtain ⟨ar, k5⟩ := ar
         injection h with h
         injection h with e1 e2
         subst e1; subst e2
         obtain ⟨s0, _⟩ := seg_list (W := fun s => [s]) (d := es) (P := fun _ => True) (fun hr => ⟨(seg_name hr).1, trivial⟩) h0
         obtain ⟨s3, b0, b1⟩ := seg_call h3
         obtain ⟨s4, x4⟩ := seg_list (W := wE) (d := z38) (P := ExSh) hx h4
         refine ⟨⟨namesW ns ++ [eqS] ++ [stepS] ++ callW c.1 c.2 ++ argsW ar, ?_, (((s0.trans (seg_want h1)).trans (seg_want h2)).trans s3).trans s4⟩, fun h => (no_12 (a := 3) rfl rfl h).elim, fun _ => x4, ⟨b1, b0⟩, fun a ha => (by cases ha), fun a ha => (by cases ha)⟩
         rw [wS_eq]
         show namesW ns ++ [eqS, stepS] ++ callW c.1 c.2 ++ argsW ar ++ [semS] = _
         simp
   ·cases h0 : nameR ws k with
    | error f => rw [h0] at h; cases h
    | ok n =>
     rw [h0] at h
     obtain ⟨n, k1⟩ := n
     simp only at h
     cases h1 : wantR ws eqS k1 with
     | error f => rw [h1] at h; cases h
     | ok k2 =>
      rw [h1] at h
      simp only at h
      cases h2 : ex k2 with
      | error f => rw [h2] at h; cases h
      | ok x =>
       rw [h2] at h
       obtain ⟨x, k3⟩ := x
       injection h with h
       injection h with e1 e2
       subst e1; subst e2
       obtain ⟨s0, _⟩ := seg_name h0
       obtain ⟨s2, x2⟩ := hx h2
       refine ⟨⟨[n] ++ [eqS] ++ wE x, ?_, (s0.trans (seg_want h1)).trans s2⟩, fun _ => x2, fun h => (no_3 (a := 1) rfl h).elim, ⟨in64_0, in64_0⟩, fun a ha => (by cases ha), fun a ha => (by cases ha)⟩
       rw [wS_eq]
       rfl
theorem seg_stmt {ex : Rd S38} {blk : Rd (List FS)} (hx : ∀ {k e k'}, ex k = .ok (e, k') → Seg ws k (wE e) k' ∧ ExSh e) (hb : BlkOk blk ws) {s : FS} (h : stmtR ws ex blk k = .ok (s, k')) : Seg ws k (wS s) k' ∧ ShS s := by
 unfold stmtR at h
 split at h
 ·rename_i ht
  obtain ⟨⟨us, e1, s1⟩, hs⟩ := seg_choice hb h
  rw [e1]
  exact ⟨(seg_takes ht).trans s1, hs⟩
 ·cases h0 : plainR ws ex k with
  | error f => rw [h0] at h; cases h
  | ok s0 =>
   rw [h0] at h
   obtain ⟨s0, k1⟩ := s0
   simp only at h
   cases h1 : wantR ws semS k1 with
   | error f => rw [h1] at h; cases h
   | ok k2 =>
    rw [h1] at h
    injection h with h
    injection h with e1 e2
    subst e1; subst e2
    obtain ⟨⟨us, e1, s1⟩, hs⟩ := seg_plain hx h0
    rw [e1]
    exact ⟨s1.trans (seg_want h1), hs⟩
theorem seg_snoc {α : Type} {W : α → List ByteArray} {WS : List α → List ByteArray} (hW : ∀ l x, WS (l ++ [x]) = WS l ++ W x) {P : α → Prop} {read : Rd α} (hr : ∀ {k x k'}, read k = .ok (x, k') → Seg ws k (W x) k' ∧ P x) : ∀ {l k l' k'}, (∀ x ∈ l, P x) → snocR read l k = .ok (l', k') → (∃ us, Seg ws k us k' ∧ WS l' = WS l ++ us) ∧ ∀ x ∈ l', P x := by
 intro l k l' k' hp h
 unfold snocR at h
 cases h0 : read k with
 | error f => rw [h0] at h; cases h
 | ok x =>
  rw [h0] at h
  obtain ⟨x, k1⟩ := x
  injection h with h
  injection h with e1 e2
  subst e1; subst e2
  obtain ⟨s1, p1⟩ := hr h0
  refine ⟨⟨W x, s1, hW l x⟩, fun y hy => ?_⟩
  rcases List.mem_append.1 hy with hy | hy
  ·exact hp y hy
  ·rw [List.mem_singleton.1 hy]; exact p1
theorem seg_block (hw : ∀ x ∈ ws, x.size ≤ 140737488355328) : ∀ {d k b k'}, blockR ws d k = .ok (b, k') → Seg ws k (wL b) k' ∧ FsSh b
 | 0, k, b, k', h => by unfold blockR at h; cases h
 | d + 1, k, b, k', h => by
  unfold blockR at h
  obtain ⟨⟨us, s1, e1⟩, hp⟩ := seg_till (WS := wLs) (P := fun l => ∀ s ∈ l, ShS s) (seg_snoc (W := wS) (WS := wLs) (fun l x => by rw [wLs_app, wLs, wLs, List.append_nil]) (seg_stmt (seg_expr hw) (seg_block hw))) (fun s hs => by cases hs) h
  rw [show wLs [] = [] from by rw [wLs], List.nil_append] at e1
  refine ⟨?_, sh_of hp⟩
  unfold wL
  rw [e1]
  exact s1
theorem seg_flag {n : Int} (h : flagR ws k = .ok (n, k')) : Seg ws k ([itoaB n] ++ [semS]) k' ∧ In64 n := by
 unfold flagR at h
 cases h0 : numberR ws k with
 | error f => rw [h0] at h; cases h
 | ok x =>
  rw [h0] at h
  obtain ⟨x, k1⟩ := x
  simp only at h
  cases h1 : wantR ws semS k1 with
  | error f => rw [h1] at h; cases h
  | ok k2 =>
   rw [h1] at h
   injection h with h
   injection h with e1 e2
   subst e1; subst e2
   obtain ⟨s0, b0⟩ := seg_number h0
   exact ⟨s0.trans (seg_want h1), in64_of b0⟩
theorem seg_part {p : S103} (h : partR ws k = .ok (p, k')) : Seg ws k (partW p ++ [semS]) k' ∧ In64 p.f0 ∧ In64 p.f1 := by
 unfold partR at h
 cases h0 : wantR ws opnS k with
 | error f => rw [h0] at h; cases h
 | ok k1 =>
  rw [h0] at h
  simp only at h
  cases h1 : numberR ws k1 with
  | error f => rw [h1] at h; cases h
  | ok a =>
   rw [h1] at h
   obtain ⟨a, k2⟩ := a
   simp only at h
   cases h2 : wantR ws comS k2 with
   | error f => rw [h2] at h; cases h
   | ok k3 =>
    rw [h2] at h
    simp only at h
    cases h3 : numberR ws k3 with
    | error f => rw [h3] at h; cases h
    | ok b =>
     rw [h3] at h
     obtain ⟨b, k4⟩ := b
     simp only at h
     cases h4 : wantR ws clsS k4 with
     | error f => rw [h4] at h; cases h
     | ok k5 =>
      rw [h4] at h
      simp only at h
      cases h5 : wantR ws semS k5 with
      | error f => rw [h5] at h; cases h
      | ok k6 =>
       rw [h5] at h
       injection h with h
       injection h with e1 e2
       subst e1; subst e2
       obtain ⟨s1, b1⟩ := seg_number h1
       obtain ⟨s3, b3⟩ := seg_number h3
       exact ⟨(((((seg_want h0).trans s1).trans (seg_want h2)).trans s3).trans (seg_want h4)).trans (seg_want h5), in64_of b1, in64_of b3⟩
theorem seg_func (hw : ∀ x ∈ ws, x.size ≤ 140737488355328) {f : FF} (h : funcR ws k = .ok (f, k')) : Seg ws k (wF f) k' ∧ FnSh f := by
 unfold funcR at h
 cases h0 : wantR ws funS k with
 | error e => rw [h0] at h; cases h
 | ok k1 =>
 rw [h0] at h; simp only at h
 cases h1 : listR ws (nameR ws) k1 with
 | error e => rw [h1] at h; cases h
 | ok ps =>
 rw [h1] at h; obtain ⟨ps, k2⟩ := ps; simp only at h
 cases h2 : wantR ws eqS k2 with
 | error e => rw [h2] at h; cases h
 | ok k3 =>
 rw [h2] at h; simp only at h
 cases h3 : listR ws (nameR ws) k3 with
 | error e => rw [h3] at h; cases h
 | ok rs =>
 rw [h3] at h; obtain ⟨rs, k4⟩ := rs; simp only at h
 cases h4 : wantR ws cellsS k4 with
 | error e => rw [h4] at h; cases h
 | ok k5 =>
 rw [h4] at h; simp only at h
 cases h5 : numberR ws k5 with
 | error e => rw [h5] at h; cases h
 | ok n =>
 rw [h5] at h; obtain ⟨n, k6⟩ := n; simp only at h
 cases h6 : wantR ws flagsS k6 with
 | error e => rw [h6] at h; cases h
 | ok k7 =>
 rw [h6] at h; simp only at h
 cases h7 : tillR ws (snocR (flagR ws)) [] k7 with
 | error e => rw [h7] at h; cases h
 | ok fl =>
 rw [h7] at h; obtain ⟨fl, k8⟩ := fl; simp only at h
 cases h8 : wantR ws partsS k8 with
 | error e => rw [h8] at h; cases h
 | ok k9 =>
 rw [h8] at h; simp only at h
 cases h9 : tillR ws (snocR (partR ws)) [] k9 with
 | error e => rw [h9] at h; cases h
 | ok pt =>
 rw [h9] at h; obtain ⟨pt, k10⟩ := pt; simp only at h
 cases h10 : blockR ws 200 k10 with
 | error e => rw [h10] at h; cases h
 | ok b =>
 rw [h10] at h; obtain ⟨b, k11⟩ := b
 injection h with h
 injection h with e1 e2
 subst e1; subst e2
 obtain ⟨s1, _⟩ := seg_list (W := fun s => [s]) (d := es) (P := fun _ => True) (fun hr => ⟨(seg_name hr).1, trivial⟩) h1
 obtain ⟨s3, _⟩ := seg_list (W := fun s => [s]) (d := es) (P := fun _ => True) (fun hr => ⟨(seg_name hr).1, trivial⟩) h3
 obtain ⟨s5, b5⟩ := seg_number h5
 obtain ⟨⟨u7, s7, e7⟩, p7⟩ := seg_till (WS := flagsW) (P := fun l => ∀ n ∈ l, In64 n) (seg_snoc (W := fun n => [itoaB n] ++ [semS]) (WS := flagsW) (fun l x => by rw [flagsW_app]; rfl) seg_flag) (fun s hs => by cases hs) h7
 obtain ⟨⟨u9, s9, e9⟩, p9⟩ := seg_till (WS := partsW) (P := fun l => ∀ p ∈ l, In64 p.f0 ∧ In64 p.f1) (seg_snoc (W := fun p => partW p ++ [semS]) (WS := partsW) (fun l x => by rw [partsW_app, partsW, partsW, List.append_nil]) seg_part) (fun s hs => by cases hs) h9
 obtain ⟨s10, p10⟩ := seg_block hw h10
 rw [show flagsW [] = [] from rfl, List.nil_append] at e7
 rw [show partsW [] = [] from rfl, List.nil_append] at e9
 subst e7; subst e9
 refine ⟨?_, ⟨in64_of b5, p7, p9, p10⟩⟩
 have := (((((((((seg_want h0).trans s1).trans (seg_want h2)).trans s3).trans (seg_want h4)).trans s5).trans (seg_want h6)).trans s7).trans (seg_want h8)).trans (s9.trans s10)
 unfold wF namesW
 simp only [List.append_assoc, List.cons_append, List.nil_append] at this ⊢
 exact this
theorem seg_funs (hw : ∀ x ∈ ws, x.size ≤ 140737488355328) : ∀ {m k l r}, funsR ws m k l = .ok r → (∀ f ∈ l, FnSh f) → (∃ us, Seg ws k us ws.length ∧ wFs r = wFs l ++ us) ∧ ∀ f ∈ r, FnSh f
 | 0, k, l, r, h, hp => by unfold funsR at h; cases h
 | m + 1, k, l, r, h, hp => by
  unfold funsR at h
  cases h0 : funcR ws k with
  | error f => rw [h0] at h; cases h
  | ok x =>
   rw [h0] at h
   obtain ⟨x, k1⟩ := x
   simp only at h
   obtain ⟨s1, p1⟩ := seg_func hw h0
   have hp2 : ∀ f ∈ l ++ [x], FnSh f := fun y hy => by
    rcases List.mem_append.1 hy with hy | hy
    ·exact hp y hy
    ·rw [List.mem_singleton.1 hy]; exact p1
   have hap : wFs (l ++ [x]) = wFs l ++ wF x := by rw [wFs_app, wFs, wFs, List.append_nil]
   split at h
   ·rename_i hk
    injection h with h
    subst h; subst hk
    exact ⟨⟨wF x, s1, hap⟩, hp2⟩
   ·obtain ⟨⟨us, s2, e2⟩, hr⟩ := seg_funs hw h hp2
    exact ⟨⟨wF x ++ us, s1.trans s2, by rw [e2, hap, List.append_assoc]⟩, hr⟩
theorem parse_words {s : ByteArray} {l : List FF} (h : parseP s = .ok l) : wFs l = wordsP s ∧ (∀ f ∈ l, FnSh f) ∧ s.size ≤ 1048576 := by
 unfold parseP at h
 split at h
 ·cases h
 ·rename_i hs
  have hw : ∀ x ∈ wordsP s, x.size ≤ 140737488355328 := fun x hx => by
   have := words_wee _ _ x hx
   have h2 : s.data.toList.length = s.size := by simp
   simp only [List.length_nil] at this
   omega
  obtain ⟨⟨us, s1, e1⟩, hp⟩ := seg_funs hw h (fun f hf => by cases hf)
  unfold Seg at s1
  rw [List.drop_zero, List.drop_length, List.append_nil] at s1
  exact ⟨by rw [e1, ← s1]; rfl, hp, by omega⟩
end
end Go.Proofs.YticndoihkfbpoaaGreatDoor
