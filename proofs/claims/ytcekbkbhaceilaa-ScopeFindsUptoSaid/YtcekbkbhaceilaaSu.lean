/- JOINED of 2 texts: Package scope: the number of a node. Plain laws of scope's answer: which node has a name; a node more leaves a program without a fault without one. -/
import Derived.Test.YtcekbkbhaceilaaSd
import Derived.Test.YtcekbkbhaceilaaSp
import Derived.Test.YtcekbkbhaceilaaSq
/- Package scope: the number of a node. -/
namespace Go.Proofs.Ytcekbkbhaceilaa
open Go Go.RowKit Go.Lib Go.Proofs.YtcekbkbhaceilaaW.PrintWords Go.Proofs.Ytcekbkbhaceilaa.PScope
set_option maxRecDepth 100000
set_option linter.unusedSimpArgs false
set_option linter.unusedVariables false

def findN (s : ByteArray) : List S36 → Option Nat
  | [] => none
  | n :: r => if sameS n.f0 s = true then some 0 else (findN s r).map (· + 1)
theorem findN_none {s : ByteArray} {l : List S36} (h : ∀ i, i < l.length → sameS (l.getD i z36).f0 s = false) : findN s l = none := by
  induction l with
  | nil => rfl
  | cons n r ih =>
    have h0 : sameS n.f0 s = false := h 0 (by simp)
    rw [findN, h0, ih (fun i hi => by have := h (i + 1) (by simp; omega); simpa using this)]
    rfl
theorem findN_some {s : ByteArray} {l : List S36} {i : Nat} (hi : i < l.length) (hb : ∀ j, j < i → sameS (l.getD j z36).f0 s = false) (h : sameS (l.getD i z36).f0 s = true) : findN s l = some i := by
  induction l generalizing i with
  | nil => simp at hi
  | cons n r ih =>
    cases i with
    | zero => rw [findN, if_pos (show sameS n.f0 s = true from h)]
    | succ i =>
      have h0 : sameS n.f0 s = false := hb 0 (by omega)
      rw [findN, h0, ih (i := i) (by simpa using hi) (fun j hj => by have := hb (j + 1) (by omega); simpa using this) (by simpa using h)]
      rfl
theorem snode1_eg : ∀ args w, (callFunc 25 args).run Try.prog w = .ok (.enter 25 args) w := enters_of Try.func25 (by kernel_rfl) rfl
theorem snode1_calls (n : S36) (s : ByteArray) (gb : Nat) (w : World) (csx : List Value) (hK : k36.K w n csx) (hb : w.heap[gb]? = some (.cells #[.string s] 9 (0, 0))) :
    Calls Try.prog 25 #[.agg csx.toArray, .pointer (some ⟨gb, 0, none⟩)] w fun e w' => e = .returned (.bool (sameS n.f0 s)) ∧ Below w.heap.size w w' := by
  obtain ⟨A1, c1, A2, c2, A3, c3, A4, c4, rfl, l1, g1, l2, g2, l3, g3, l4, g4⟩ := k36_open hK
  have h0 := fun o => (blk_cell (blk_alloc hb o) 0).trans rfl
  have hu := Try.underlying36
  clear hb hK
  have HS := Aside0.mk (sameS_eq n.f0 s)
  generalize hq : (n.f0.toList == s.toList) = q at HS
  go_enter Try.func25, Try.ntmps25
  go_wp2_with fail
  go_ret
  exact ⟨by rw [← HS.out]; rfl, below_alloc (Below.refl _ _) _⟩
theorem node_index (s : ByteArray) (gb : Nat) (w0 W : World) (A : Option Addr) (c : Nat) (ns : List S36) (hC : k36.C w0 A ns.length ns) (hB : Below w0.heap.size w0 W) (hb : W.heap[gb]? = some (.cells #[.string s] 9 (0, 0))) :
    Calls Try.prog 24 #[.slice A ns.length c, .func (.func 25) #[] #[.pointer (some ⟨gb, 0, none⟩)]] W fun e w' => e = .returned (.int .i64 (match findN s ns with | some i => (i : Int) | none => -1)) ∧ Below W.heap.size W w' := by
  refine (ix_Node _ _ snode1_eg w0 W A c ns hC (fun i => sameS (ns.getD i z36).f0 s) (fun _ W' => Below W.heap.size W W') (fun _ W' => Below W.heap.size W W') (fun _ W' h => below_step hB h) ?_ (Below.refl _ _)).mono ?_
  · intro i W' ds hi hI hKd
    refine (snode1_calls _ s gb W' ds (Kd.K_below _ (below_step hB hI) hKd) (below_blk hb hI)).mono ?_
    rintro e w' ⟨rfl, hb'⟩
    exact ⟨rfl, fun _ => below_step hI hb', fun _ => below_step hI hb'⟩
  · intro e w' h
    rcases h with ⟨rfl, h1, h2⟩ | ⟨i, hi, rfl, hb', h1, h2⟩
    · rw [findN_none h1]; exact ⟨rfl, h2⟩
    · rw [findN_some hi hb' h1]; exact ⟨rfl, h2⟩

set_option maxHeartbeats 4000000 in
theorem sfind_calls (ns : List S36) (Ae An : Option Addr) (ne ce cn : Nat) (s : ByteArray) (w0 w : World) (hN : k36.C w0 An ns.length ns) (hw : Below w0.heap.size w0 w) :
    Calls Try.prog 11 #[.agg #[.slice Ae ne ce, .slice An ns.length cn], .string s] w fun e w' => e = .returned (.tuple #[.int .i64 ((findN s ns).getD 0 : Nat), .bool (findN s ns).isSome]) ∧ Below w.heap.size w w' := by
  have hix := fun (W : World) (g : Nat) (hB : Below w0.heap.size w0 W) (hg : W.heap[g]? = some (.cells #[.string s] 9 (0, 0))) => node_index s g w0 W An cn ns hN hB hg
  clear hN
  have HB := Aside0.mk hw; have HX := Aside0.mk (Below.refl w.heap.size w)
  clear hw
  have hu := Try.underlying25
  generalize findN s ns = q at hix ⊢
  go_enter Try.func11, Try.ntmps11
  go_wp2_with (first | ((with_reducible refine gate_dst (N := 2) rfl ?_); refine box_event ?hg (N := 2) ?hd (cs := #[.slice Ae ne ce, .slice An ns.length cn]) (t := 25) ?hr ?_; (case hd => rfl); (case hg => rfl); (case hr => first | (go_simp; done) | (go_simp; rfl)); intro g2 hg_ w_ hbox hb; have B2 := Aside0.mk hbox; have LB2 := Aside0.mk ((by rw [hg_]; exact below_size HB.out) : w0.heap.size ≤ g2); replace HX := Aside0.mk (below_step HX.out hb); replace HB := Aside0.mk (below_step HB.out hb); clear hb hbox hg_) | ((with_reducible refine gate_dst (N := 3) rfl ?_); refine box_event ?hg (N := 3) ?hd (cs := #[.string s]) (t := 9) ?hr ?_; (case hd => rfl); (case hg => rfl); (case hr => first | (go_simp; done) | (go_simp; rfl)); intro g3 hg_ w_ hbox hb; replace B2 := Aside0.mk (below_blk B2.out hb); have B3 := Aside0.mk hbox; have LB3 := Aside0.mk ((by rw [hg_]; exact below_size HB.out) : w0.heap.size ≤ g3); replace HX := Aside0.mk (below_step HX.out hb); replace HB := Aside0.mk (below_step HB.out hb); clear hb hbox hg_; have c2_0 := (blk_cell B2.out 0).trans rfl; have c2_1 := (blk_cell B2.out 1).trans rfl; have c3_0 := (blk_cell B3.out 0).trans rfl))
  refine (hix _ g3 HB.out B3.out).mono ?_
  rintro e w5 ⟨rfl, hb⟩
  replace HX := Aside0.mk (below_step HX.out hb)
  clear hb hix c2_0 c2_1 c3_0
  cases q with
  | none =>
    simp only []
    go_wp2_with fail
    go_ret2
    exact ⟨rfl, HX.out⟩
  | some i =>
    simp only []
    have h0 : (i : Int) ≥ 0 := by omega
    have h1 : max (i : Int) 0 = i := by omega
    go_wp2_with fail
    go_ret2
    exact ⟨by first | rfl | (simp [h1]; done) | (rw [h1]; rfl), HX.out⟩

end Go.Proofs.Ytcekbkbhaceilaa
/- Plain laws of scope's answer: which node has a name; a node more leaves a program without a fault without one. -/
namespace Go.Proofs.Ytcekbkbhaceilaa
open Go Go.RowKit Go.Lib Go.Proofs.YtcekbkbhaceilaaW.PrintWords Go.Proofs.Ytcekbkbhaceilaa.PScope
set_option maxRecDepth 100000
set_option linter.unusedSimpArgs false
set_option linter.unusedVariables false

def tmore : ByteArray := ⟨#[109, 111, 114, 101]⟩
def moreN : S36 := ⟨tmore, [], [tx], [ty], [⟨⟨[ty], ⟨4, tx, 0, [], []⟩⟩, []⟩]⟩
theorem sameS_iff (a b : ByteArray) : sameS a b = true ↔ a = b := by unfold sameS; simp
theorem nodesM_names {es : List S72} {ns : List S36} (l : List S36) : ∀ (m mf : Mp) (b : Nat), nodesM es ns m l b = some mf → ∀ s, (mf.nodes s).isSome = true → (m.nodes s).isSome = true ∨ ∃ n, n ∈ l ∧ n.f0 = s := by
  induction l with
  | nil => intro m mf b h s hs; rw [nodesM] at h; cases h; exact .inl hs
  | cons n t ih =>
    intro m mf b h s hs
    rw [nodesM] at h
    split at h
    · cases h
    · rcases ih _ _ _ h s hs with h1 | ⟨y, hy, e⟩
      · by_cases e : s = n.f0
        · exact .inr ⟨n, List.mem_cons_self .., e.symm⟩
        · refine .inl ?_
          unfold nodeM mupd at h1
          simp only [if_neg e] at h1
          rw [nodeR_nodes] at h1
          exact h1
      · exact .inr ⟨y, List.mem_cons_of_mem _ hy, e⟩
theorem findN_no {s : ByteArray} {l : List S36} (h : findN s l = none) : ∀ n, n ∈ l → n.f0 ≠ s := by
  induction l with
  | nil => intro n hn; cases hn
  | cons y r ih =>
    intro n hn
    rw [findN] at h
    split at h
    · cases h
    · rename_i hy
      rcases List.mem_cons.1 hn with rfl | hr
      · intro e; exact hy ((sameS_iff _ _).2 e)
      · exact ih (by simpa using h) n hr
theorem findN_append {s : ByteArray} {l : List S36} {n : S36} (h : findN s l = none) (e : n.f0 = s) : findN s (l ++ [n]) = some l.length := by
  induction l with
  | nil => rw [List.nil_append, findN, if_pos ((sameS_iff _ _).2 e)]; rfl
  | cons y r ih =>
    rw [findN] at h
    split at h
    · cases h
    · rename_i hy
      rw [List.cons_append, findN, if_neg hy, ih (by simpa using h)]; rfl
theorem rd_append (ns : List S36) (x : S36) (v : Int) (h0 : 0 ≤ v) (h : v < (ns.length : Nat)) : rd_T36 ns v = rd_T36 (ns ++ [x]) v := by
  unfold rd_T36
  have hk : v.toNat < ns.length := by omega
  simp [List.getD_eq_getElem?_getD, List.getElem?_append_left hk]
theorem more_fields : nodeB true moreN = true ∧ fitsB moreN = true := by decide +kernel
theorem nodeR_more (es : List S72) (ns : List S36) (m : Mp) (h : m.nodes tmore = none) : (nodeR es ns m moreN).2.1 = false := by
  have hh : headB m moreN = true := by
    unfold headB head0
    rw [show moreN.f0 = tmore from rfl, h]
    kernel_rfl
  have hd : defB m (mkM 0 [tx]) ⟨⟨[ty], ⟨4, tx, 0, [], []⟩⟩, []⟩ [ty] = true := by
    rw [defB_none (by decide +kernel) rfl]; rfl
  have hr : runDefs m (mkM 0 moreN.f2) moreN.f4 0 = (none, defM m ⟨⟨[ty], ⟨4, tx, 0, [], []⟩⟩, []⟩, addM (mkM 0 [tx]) 1 [ty]) := by
    show runDefs m (mkM 0 [tx]) [⟨⟨[ty], ⟨4, tx, 0, [], []⟩⟩, []⟩] 0 = _
    rw [runDefs, show definesL ⟨⟨[ty], ⟨4, tx, 0, [], []⟩⟩, []⟩ = [ty] from rfl, if_pos hd, runDefs]
  unfold nodeR
  rw [if_pos hh, hr]
  have hu : (moreN.f3.any (unset (addM (mkM 0 [tx]) 1 [ty]))) = false := by decide +kernel
  have hf : firstUse (usesB (defM m ⟨⟨[ty], ⟨4, tx, 0, [], []⟩⟩, []⟩) (addM (mkM 0 [tx]) 1 [ty]) (mkM 1 moreN.f1) es ns) moreN.f4 0 = none := by
    show firstUse _ [⟨⟨[ty], ⟨4, tx, 0, [], []⟩⟩, []⟩] 0 = none
    have hi : itemUB (usesB (defM m ⟨⟨[ty], ⟨4, tx, 0, [], []⟩⟩, []⟩) (addM (mkM 0 [tx]) 1 [ty]) (mkM 1 moreN.f1) es ns) ⟨⟨[ty], ⟨4, tx, 0, [], []⟩⟩, []⟩ = true := by
      have ht : ((addM (mkM 0 [tx]) 1 [ty]) tx).isSome = true := by decide +kernel
      simp [itemUB, usesB_eq, topU, usesL, ht]
    rw [firstUse, if_pos hi, firstUse]
  unfold nodeT
  simp only [hu, hf]
  rfl
theorem more_law {es : List S72} {ns : List S36} (h : (checkR true es ns).1 = 0) (hl : ns.length < 16) (hf : findN tmore ns = none) : checkR true es (ns ++ [moreN]) = (0, 0, 0) := by
  obtain ⟨hr, m, mf, he, hlt, hn⟩ := checkR_none h
  obtain ⟨h1, h2⟩ := rightP_parts hr
  obtain ⟨a, b, c, d, e⟩ := (programB_iff _ _ _).1 h1
  have hr' : rightP es (ns ++ [moreN]) true = 0 := by
    refine rightP_of ((programB_iff _ _ _).2 ⟨a, by simp, by simp; omega, d, ?_⟩) ?_
    · rw [List.all_append, e]; simp only [List.all_cons, List.all_nil, more_fields.1]; rfl
    · rw [List.all_append, h2]; simp only [List.all_cons, List.all_nil, more_fields.2]; rfl
  have hc := nodesM_congr (es := es) (ns := ns) (ns' := ns ++ [moreN]) ns.length (fun v h0 hv => rd_append ns moreN v h0 hv) ns m 0 hlt (by omega)
  have hmf : mf.nodes tmore = none := by
    cases hq : mf.nodes tmore with
    | none => rfl
    | some k =>
      exfalso
      rcases nodesM_names ns m mf 0 hn tmore (by rw [hq]; rfl) with h3 | ⟨y, hy, ey⟩
      · cases hm : m.nodes tmore with
        | none => rw [hm] at h3; cases h3
        | some v => have := hlt tmore v hm; omega
      · exact findN_no hf y hy ey
  have hs : nodesM es (ns ++ [moreN]) m (ns ++ [moreN]) 0 = some (nodeM (nodeR es (ns ++ [moreN]) mf moreN).2.2 moreN (0 + ns.length)) := by
    rw [nodesM_append, ← hc, hn]
    show nodesM es (ns ++ [moreN]) mf [moreN] (0 + ns.length) = _
    rw [nodesM, nodeR_more es (ns ++ [moreN]) mf hmf, if_neg (by simp), nodesM]
  exact checkR_ok hr' he hs
end Go.Proofs.Ytcekbkbhaceilaa
