/- Plain laws: the checker's marks say what the reference asks: enums, definitions, nodes. -/
import Derived.Test.YtggfnbnochmkdaaGreatZe
import Derived.Test.YtggfnbnochmkdaaGreatZg
namespace Go.Proofs.YtggfnbnochmkdaaGreat
open Go Go.RowKit Go.Lib Go.Proofs.YtggfnbnochmkdaaGreatW.PrintWords Go.Proofs.YtggfnbnochmkdaaGreat.PScope
set_option maxRecDepth 100000
set_option linter.unusedSimpArgs false
set_option linter.unusedVariables false
theorem inB_app (a b : List ByteArray) (s : ByteArray) : inB (a ++ b) s = (inB a s || inB b s) := by unfold inB; rw [List.any_append]
theorem all_not' {α : Type} (p : α → Bool) (l : List α) : l.all (fun x => !p x) = !l.any p := by
 induction l with
 | nil => rfl
 | cons a r ih => rw [List.all_cons, List.any_cons, ih, Bool.not_or]
theorem findS_some (s : ByteArray) (l : List ByteArray) : (findS s l).isSome = inB l s := by
 induction l with
 | nil => rfl
 | cons a r ih =>
   have h2 : inB (a :: r) s = (decide (a = s) || inB r s) := rfl
   rw [h2, findS]
   by_cases e : a = s
   · rw [if_pos e, decide_eq_true e]; rfl
   · rw [if_neg e, decide_eq_false e, Bool.false_or, ← ih, Option.isSome_map]
theorem conE_some' (s : ByteArray) (es : List S38) : ∀ i, (conE s es i).2.2 = es.any (fun t => inB t.f1 s) := by
 induction es with
 | nil => intro i; rfl
 | cons t r ih =>
   intro i
   rw [conE, List.any_cons, ← findS_some]
   cases hq : findS s t.f1 with
   | some k => rfl
   | none => simp only [Option.isSome_none, Bool.false_or]; exact ih _
theorem conR_some (es : List S38) (s : ByteArray) : (conR es s).2.2 = ((F0 s).isSome || es.any (fun t => inB t.f1 s)) := by
 cases hq : F0 s with
 | some c => rw [F0_some es hq]; rfl
 | none => rw [F0_none es hq, conE_some']; rfl
structure TiedE (es : List S38) (i : Nat) (m : Mp) : Prop where
 enums : ∀ s, m.enums s = (es.take i).any (fun u => decide (u.f0 = s))
 cons : ∀ s, m.cons s = (conR (es.take i) s).2.2
 nodes : ∀ s, m.nodes s = none
 states : ∀ s, m.states s = false
theorem tiedE_zero (es : List S38) : TiedE es 0 m0 := ⟨fun s => rfl, fun s => by rw [conR_some, List.take_zero, List.any_nil, Bool.or_false]; rfl, fun s => rfl, fun s => rfl⟩
theorem take_snoc {α : Type} (l : List α) (z : α) (k : Nat) (h : k < l.length) : l.take (k + 1) = l.take k ++ [l.getD k z] := by
 rw [List.take_add_one, List.getD_eq_getElem?_getD, List.getElem?_eq_getElem h]; rfl
theorem enum_tied {es : List S38} {i : Nat} {m : Mp} (h : TiedE es i m) (t : S38) : zenumB es i t = enumOk m t := by
 unfold zenumB enumOk freshL
 have h1 : t.f1.all (fun c => !(conR (es.take i) c).2.2) = !t.f1.any m.cons := by rw [all_not']; congr 2; funext c; exact (h.cons c).symm
 rw [h1, h.enums]
 cases (es.take i).any (fun u => decide (u.f0 = t.f0)) <;> cases t.f1.any m.cons <;> cases unlikeB t.f1 <;> rfl
theorem tiedE_step {es : List S38} {i : Nat} {m : Mp} (h : TiedE es i m) (hi : i < es.length) : TiedE es (i + 1) (enumM m (es.getD i z38)) := by
 have ht := take_snoc es z38 i hi
 refine ⟨fun s => ?_, fun s => ?_, h.nodes, h.states⟩
 · rw [ht, List.any_append, ← h.enums s]
   show (decide (s = (es.getD i z38).f0) || m.enums s) = _
   rw [Bool.or_comm, List.any_cons, List.any_nil, Bool.or_false]
   congr 1
   exact decide_eq_decide.2 ⟨fun h => h.symm, fun h => h.symm⟩
 · rw [ht, conR_some, List.any_append, ← Bool.or_assoc, ← conR_some, ← h.cons s]
   show (inB (es.getD i z38).f1 s || m.cons s) = _
   rw [Bool.or_comm, List.any_cons, List.any_nil, Bool.or_false]
structure TiedK (es : List S38) (ns : List S35) (k : Nat) (m : Mp) : Prop where
 cons : ∀ s, m.cons s = (conR es s).2.2
 nodes : TiedN ns k m
 states : ∀ s, m.states s = inB (statesL ns k 0) s
structure TiedD (es : List S38) (ns : List S35) (k b : Nat) (n : S35) (m : Mp) (V : SMap) : Prop where
 cons : ∀ s, m.cons s = (conR es s).2.2
 nodes : TiedN ns k m
 states : ∀ s, m.states s = inB (statesL ns k b) s
 vars : ∀ s, (V s).isSome = inB (varsL (partN n.f2 (n.f4.take b))) s
theorem mkM_isSome (v : Int) (l : List ByteArray) (s : ByteArray) : (mkM v l s).isSome = inB l s := by unfold mkM; cases inB l s <;> rfl
theorem tiedD_zero {es : List S38} {ns : List S35} {k : Nat} {n : S35} {m : Mp} (h : TiedK es ns k m) : TiedD es ns k 0 n m (mkM 0 n.f2) :=
 ⟨h.cons, h.nodes, h.states, fun s => by rw [mkM_isSome]; show _ = inB (n.f2 ++ ([] : List S47).flatMap definesL) s; rw [List.flatMap_nil, List.append_nil]⟩
theorem statesL_succ {ns : List S35} {k b : Nat} {n : S35} (hnk : ns.getD k z35 = n) (hb : b < n.f4.length) : statesL ns k (b + 1) = statesL ns k b ++ stNames (n.f4.getD b z47) := by
 unfold statesL
 rw [hnk, flatMap_take n.f4 stNames z47 b hb, List.append_assoc]
theorem tiedD_step {es : List S38} {ns : List S35} {k b : Nat} {n : S35} {m : Mp} {V : SMap} (hnk : ns.getD k z35 = n) (hb : b < n.f4.length) (h : TiedD es ns k b n m V) :
   TiedD es ns k (b + 1) n (defM m (n.f4.getD b z47)) (addM V 1 (definesL (n.f4.getD b z47))) := by
 refine ⟨h.cons, h.nodes, fun s => ?_, fun s => ?_⟩
 · rw [statesL_succ hnk hb, inB_app, ← h.states s, Bool.or_comm]; rfl
 · have hv : varsL (partN n.f2 (n.f4.take (b + 1))) = varsL (partN n.f2 (n.f4.take b)) ++ definesL (n.f4.getD b z47) := by
     show n.f2 ++ (n.f4.take (b + 1)).flatMap definesL = (n.f2 ++ (n.f4.take b).flatMap definesL) ++ _
     rw [flatMap_take n.f4 definesL z47 b hb, List.append_assoc]
   rw [hv, inB_app, ← h.vars s]
   unfold addM
   cases inB (definesL (n.f4.getD b z47)) s <;> simp
theorem aut_tied {es : List S38} {ns : List S35} {k b : Nat} {n : S35} {m : Mp} {V : SMap} (h : TiedD es ns k b n m V) (l : List ByteArray) (x : S47) :
   zaut es (statesL ns k b) l x = (freshL m.states (stNames x) && (!(stNames x).any m.cons && x.f1.all (fun s => stDefB s l x.f1))) := by
 unfold zaut
 have h1 : x.f1.all (zfree es (statesL ns k b)) = (!(stNames x).any m.cons && !(stNames x).any m.states) := by
   have : zfree es (statesL ns k b) = fun s => !m.cons s.f0 && !m.states s.f0 := by funext s; unfold zfree; rw [h.cons, h.states]
   rw [this, all_and, all_not', all_not']
   unfold stNames
   rw [List.any_map, List.any_map]; rfl
 have h2 : x.f1.all (zst (stNames x) l) = x.f1.all (fun s => stDefB s l x.f1) := by
   congr 1
   funext s
   unfold zst stDefB
   have a1 : s.f1.all (oneOf l) = (s.f1.all zone && (s.f1.map nm).all (inB l)) := by
     have : oneOf l = fun q => zone q && inB l (nm q) := rfl
     rw [this, all_and, List.all_map]; rfl
   have a2 : s.f2.all (goesTo x.f1) = s.f2.all (fun y => inB (stNames x) y.f1) := by
     congr 1
     funext y
     unfold goesTo inB stNames
     rw [List.any_map]; rfl
   rw [a1, a2, List.length_map]
   cases s.f1.all zone <;> cases (s.f1.map nm).all (inB l) <;> cases ((s.f1.length : Int) == (l.length : Int)) <;> cases unlikeB (s.f1.map nm) <;> cases s.f2.all (fun y => inB (stNames x) y.f1) <;> rfl
 rw [h1, h2]
 unfold freshL
 cases (stNames x).any m.cons <;> cases (stNames x).any m.states <;> cases unlikeB (stNames x) <;> cases x.f1.all (fun s => stDefB s l x.f1) <;> rfl
theorem def_tied {es : List S38} {ns : List S35} {k b : Nat} {n : S35} {m : Mp} {V : SMap} (h : TiedD es ns k b n m V) (x : S47) : zdefB es ns k b n x = defB m V x (definesL x) := by
 unfold zdefB defB
 rw [aut_tied h]
 have h1 : (definesL x).all (fun s => !inB (varsL (partN n.f2 (n.f4.take b))) s) = !(definesL x).any (fun s => (V s).isSome) := by
   rw [all_not']
   congr 2
   funext s
   exact (h.vars s).symm
 rw [h1]
 have h2 : freshL (fun s => (V s).isSome) (definesL x) = (unlikeB (definesL x) && !(definesL x).any (fun s => (V s).isSome)) := rfl
 rw [h2]
 generalize (if x.f1.length = 0 then (((definesL x).length : Int) == 1) || ((x.f0.f1.f0 == 14) || (x.f0.f1.f0 == 15)) else (freshL m.states (stNames x) && (!(stNames x).any m.cons && x.f1.all (fun s => stDefB s (definesL x) x.f1)))) = q
 cases unlikeB (definesL x) <;> cases (definesL x).any (fun s => (V s).isSome) <;> cases q <;> rfl
theorem zrunDefs_none (l : List S47) : ∀ (m : Mp) (V : SMap) (b : Nat) (m' : Mp) (V' : SMap), runDefs m V l b = (none, m', V') → V' = addM V 1 (l.flatMap definesL) := by
 induction l with
 | nil => intro m V b m' V' h; rw [runDefs] at h; cases h; exact (addM_nil V 1).symm
 | cons x r ih =>
   intro m V b m' V' h
   rw [runDefs] at h
   split at h
   · rw [ih _ _ _ _ _ h, List.flatMap_cons]
     funext s
     unfold addM
     rw [inB_app]
     cases inB (definesL x) s <;> cases inB (r.flatMap definesL) s <;> rfl
   · cases h
theorem runDefs_tied {es : List S38} {ns : List S35} {k : Nat} {n : S35} (hnk : ns.getD k z35 = n) (d : Nat) : ∀ (b : Nat) (m : Mp) (V : SMap) (m' : Mp) (V' : SMap), b ≤ n.f4.length → n.f4.length - b = d → TiedD es ns k b n m V → runDefs m V (n.f4.drop b) b = (none, m', V') → TiedD es ns k n.f4.length n m' V' := by
 induction d with
 | zero =>
   intro b m V m' V' hb hd h hr
   obtain rfl : b = n.f4.length := by omega
   rw [List.drop_length, runDefs] at hr
   cases hr
   exact h
 | succ d ih =>
   intro b m V m' V' hb hd h hr
   have hlt : b < n.f4.length := by omega
   cases hq : defB m V (n.f4.getD b z47) (definesL (n.f4.getD b z47)) with
   | false => rw [runDefs_no hlt rfl b hq] at hr; cases hr
   | true =>
     rw [runDefs_yes hlt rfl b hq] at hr
     exact ih (b + 1) _ _ m' V' (by omega) (by omega) (tiedD_step hnk hlt h) hr
theorem unset_tied {n : S35} {m m' : Mp} {V' : SMap} (h : runDefs m (mkM 0 n.f2) n.f4 0 = (none, m', V')) (s : ByteArray) : unset V' s = !inB (n.f4.flatMap definesL) s := by
 rw [zrunDefs_none n.f4 m (mkM 0 n.f2) 0 m' V' h]
 unfold unset addM
 cases inB (n.f4.flatMap definesL) s with
 | true => rfl
 | false =>
   rw [if_neg Bool.false_ne_true]
   unfold mkM
   cases inB n.f2 s <;> rfl
theorem tied_uses {es : List S38} {ns : List S35} {k : Nat} {n : S35} {m : Mp} {V : SMap} (h : TiedD es ns k n.f4.length n m V) : Tied es ns k n m V (mkM 1 n.f1) :=
 ⟨h.cons, h.nodes, fun s => by rw [h.vars s, List.take_length]; rfl, fun s => mkM_isSome 1 n.f1 s⟩
theorem findN_app (s : ByteArray) (l : List S35) (n : S35) : findN s (l ++ [n]) = match findN s l with | some i => some i | none => if sameS n.f0 s = true then some l.length else none := by
 induction l with
 | nil => show (if sameS n.f0 s = true then some 0 else (findN s []).map (· + 1)) = _; cases sameS n.f0 s <;> rfl
 | cons a r ih =>
   rw [List.cons_append, findN, findN]
   by_cases e : sameS a.f0 s = true
   · rw [if_pos e, if_pos e]
   · rw [if_neg e, if_neg e, ih]
     cases findN s r with
     | some i => rfl
     | none => cases sameS n.f0 s <;> rfl
theorem nodeR_parts {es : List S38} {ns : List S35} {m : Mp} {n : S35} (h : (nodeR es ns m n).2.1 = false) : headB m n = true ∧ ∃ mf Vf, runDefs m (mkM 0 n.f2) n.f4 0 = (none, mf, Vf) ∧ (nodeR es ns m n).2.2 = mf := by
 unfold nodeR at h ⊢
 split at h
 · rename_i hh
   refine ⟨hh, ?_⟩
   rw [if_pos hh]
   generalize hR : runDefs m (mkM 0 n.f2) n.f4 0 = R at h ⊢
   obtain ⟨q, mf, Vf⟩ := R
   cases q with
   | some b => unfold nodeT at h; cases h
   | none =>
     refine ⟨mf, Vf, rfl, ?_⟩
     unfold nodeT at h ⊢
     simp only at h ⊢
     split at h
     · cases h
     · rename_i hu
       rw [if_neg hu]
       unfold nodeE at h ⊢
       cases hq : firstUse (usesB mf Vf (mkM 1 n.f1) es ns) n.f4 0 with
       | some b => rw [hq] at h
       | none => rfl
 · cases h
theorem node_tied {es : List S38} {ns : List S35} {k : Nat} {n : S35} {m : Mp} (hk : k < ns.length) (hnk : ns.getD k z35 = n) (h : TiedK es ns k m) (hr : (nodeR es ns m n).2.1 = false) : TiedK es ns (k + 1) (nodeM (nodeR es ns m n).2.2 n k) := by
 obtain ⟨hh, mf, Vf, hd, hm⟩ := nodeR_parts hr
 have ht := runDefs_tied hnk n.f4.length 0 m (mkM 0 n.f2) mf Vf (by omega) (by omega) (tiedD_zero h) (by rw [List.drop_zero]; exact hd)
 rw [hm]
 have htk := take_snoc ns z35 k hk
 rw [hnk] at htk
 refine ⟨ht.cons, fun s => ?_, fun s => ?_⟩
 · show mupd mf.nodes n.f0 (k : Int) s = _
   unfold mupd
   rw [htk, findN_app]
   have hf : (m.nodes n.f0).isSome = false := by
     unfold headB head0 at hh
     simp only [Bool.and_eq_true, Bool.not_eq_true'] at hh
     exact hh.1.1
   rw [h.nodes.some] at hf
   by_cases e : s = n.f0
   · rw [if_pos e, e]
     cases hq : findN n.f0 (ns.take k) with
     | some i => rw [hq] at hf; cases hf
     | none =>
       have hs : sameS n.f0 n.f0 = true := by unfold sameS; simp
       simp only [if_pos hs, List.length_take, Nat.min_eq_left (Nat.le_of_lt hk)]
       rfl
   · rw [if_neg e, ht.nodes s]
     cases hq : findN s (ns.take k) with
     | some i => rfl
     | none =>
       have hs : ¬ sameS n.f0 s = true := fun h => e ((zsameS_iff _ _).1 h).symm
       simp only [if_neg hs]
 · show mf.states s = _
   rw [ht.states s]
   unfold statesL
   rw [hnk, List.take_length, htk, List.flatMap_append, List.take_zero, List.flatMap_nil, List.append_nil, List.flatMap_cons, List.flatMap_nil, List.append_nil]
   rfl
theorem tiedK_zero {es : List S38} {ns : List S35} {m : Mp} (h : TiedE es es.length m) : TiedK es ns 0 m := by
 refine ⟨fun s => by rw [h.cons s, List.take_length], fun s => by rw [h.nodes s]; rfl, fun s => ?_⟩
 rw [h.states s]
 unfold statesL
 rw [List.take_zero, List.take_zero]; rfl
end Go.Proofs.YtggfnbnochmkdaaGreat
