/- Plain laws of the reference's printed functions: constructors, nodes, enums, states, unlike lists: what each answers, in few words. -/
import Derived.Test.YtggfnbnochmkdaaGreatQa
import Derived.Test.YtggfnbnochmkdaaGreatSp
import Derived.Test.YtggfnbnochmkdaaGreatPScopex7
import Derived.Test.YtggfnbnochmkdaaGreatPScopex8
import Derived.Test.YtggfnbnochmkdaaGreatPScopex5
namespace Go.Proofs.YtggfnbnochmkdaaGreat
open Go Go.RowKit Go.Lib Go.Proofs.YtggfnbnochmkdaaGreatW.PrintWords Go.Proofs.YtggfnbnochmkdaaGreat.PScope
set_option maxRecDepth 100000
set_option linter.unusedSimpArgs false
set_option linter.unusedVariables false
theorem zsameS_iff (a b : ByteArray) : sameS a b = true ↔ a = b := by unfold sameS; exact decide_eq_true_iff
def findN (s : ByteArray) : List S35 → Option Nat
 | [] => none
 | n :: r => if sameS n.f0 s = true then some 0 else (findN s r).map (· + 1)
def findS (s : ByteArray) : List ByteArray → Option Nat
 | [] => none
 | a :: r => if a = s then some 0 else (findS s r).map (· + 1)
def conE (s : ByteArray) : List S38 → Nat → Int × Int × Bool
 | [], _ => (0, 0, false)
 | t :: r, i => match findS s t.f1 with | some k => ((i : Int), (k : Int), true) | none => conE s r (i + 1)
def conR (es : List S38) (s : ByteArray) : Int × Int × Bool := if s = falseS then (-1, 0, true) else if s = trueS then (-1, 1, true) else conE s es 0
theorem F0_some {s : ByteArray} {c : Int × Int} (es : List S38) (h : F0 s = some c) : conR es s = (c.1, c.2, true) := by
 unfold F0 mupd at h
 unfold conR
 by_cases e1 : s = trueS
 · have e2 : ¬ s = falseS := by rw [e1]; decide +kernel
   simp only [if_pos e1] at h; cases h
   rw [if_neg e2, if_pos e1]
 · simp only [if_neg e1] at h
   by_cases e2 : s = falseS
   · rw [if_pos e2] at h; cases h; rw [if_pos e2]
   · rw [if_neg e2] at h; cases h
theorem F0_none {s : ByteArray} (es : List S38) (h : F0 s = none) : conR es s = conE s es 0 := by
 unfold F0 mupd at h
 unfold conR
 by_cases e1 : s = trueS
 · rw [if_pos e1] at h; cases h
 · rw [if_neg e1] at h
   by_cases e2 : s = falseS
   · rw [if_pos e2] at h; cases h
   · rw [if_neg e2, if_neg e1]
def costE : List S38 → Nat
 | [] => 0
 | t :: r => t.f1.length + 2 + costE r
theorem rd_drop (es r : List S38) (t : S38) (i : Nat) (h : es.drop i = t :: r) : i < es.length ∧ rd_T38 es (i : Int) = t ∧ es.drop (i + 1) = r := by
 have hi : i < es.length := by
   by_cases hi : i < es.length
   · exact hi
   · rw [List.drop_eq_nil_of_le (by omega)] at h; cases h
 rw [List.drop_eq_getElem_cons hi] at h
 injection h with h1 h2
 refine ⟨hi, ?_, h2⟩
 unfold rd_T38
 simp [List.getD_eq_getElem?_getD, List.getElem?_eq_getElem hi, h1]
theorem con_loops (s : ByteArray) (es : List S38) (ns : List S35) (hes : es.length ≤ 9223372036854775807) (r : List S38) : ∀ (i : Nat), es.drop i = r → (∀ t, t ∈ r → t.f1.length ≤ 9223372036854775807) → ∀ k, costE r < k → penduleref05_Con.l0 k s (i : Int) es ns = some (conE s r i) := by
 induction r with
 | nil =>
   intro i h _ k hk
   obtain ⟨k, rfl⟩ : ∃ m, k = m + 1 := ⟨k - 1, by omega⟩
   have hi : es.length ≤ i := List.drop_eq_nil_iff.1 h
   simp only [penduleref05_Con.l0]
   rw [if_neg (by omega)]; rfl
 | cons t r ih =>
   intro i h ht k hk
   obtain ⟨hi, hrd, hdr⟩ := rd_drop es r t i h
   obtain ⟨k, rfl⟩ : ∃ m, k = m + 1 := ⟨k - 1, by omega⟩
   simp only [penduleref05_Con.l0]
   rw [if_pos (by omega)]
   have htl := ht t (List.mem_cons_self ..)
   have inner : ∀ (d j k : Nat), j ≤ t.f1.length → t.f1.length - j = d → d + 1 + costE r < k → penduleref05_Con.l1 k s (i : Int) (j : Int) es ns = some (match findS s (t.f1.drop j) with | some m => ((i : Int), ((j + m : Nat) : Int), true) | none => conE s r (i + 1)) := by
     intro d
     induction d with
     | zero =>
       intro j k hj hd hk
       obtain ⟨k, rfl⟩ : ∃ m, k = m + 1 := ⟨k - 1, by omega⟩
       obtain rfl : j = t.f1.length := by omega
       simp only [penduleref05_Con.l1]
       rw [if_pos (by omega), if_pos (by omega), hrd, if_neg (by omega), wrap_add (by omega) (by omega), List.drop_length]
       have := ih (i + 1) hdr (fun y hy => ht y (List.mem_cons_of_mem _ hy)) k (by omega)
       rw [show ((i : Nat) : Int) + 1 = ((i + 1 : Nat) : Int) by omega, this]; rfl
     | succ d ihd =>
       intro j k hj hd hk
       obtain ⟨k, rfl⟩ : ∃ m, k = m + 1 := ⟨k - 1, by omega⟩
       have hlt : j < t.f1.length := by omega
       have hdj : t.f1.drop j = t.f1[j] :: t.f1.drop (j + 1) := List.drop_eq_getElem_cons hlt
       have hrj : rdOf ByteArray.empty t.f1 (j : Int) = t.f1[j] := by simp [rdOf, hlt]
       simp only [penduleref05_Con.l1]
       rw [if_pos (by omega), if_pos (by omega), hrd, if_pos (by omega), if_pos (by omega), hrj, hdj]
       by_cases e : t.f1[j].toList = s.toList
       · rw [if_pos e, findS, if_pos (toList_inj e)]; rfl
       · have hne : ¬ t.f1[j] = s := by intro h_; exact e (by rw [h_])
         rw [if_neg e, wrap_add (by omega) (by omega), findS, if_neg hne]
         have := ihd (j + 1) k (by omega) (by omega) (by omega)
         rw [show ((j : Nat) : Int) + 1 = ((j + 1 : Nat) : Int) by omega, this]
         cases findS s (t.f1.drop (j + 1)) with
         | none => rfl
         | some m => show some (((i : Int), ((j + 1 + m : Nat) : Int), true)) = some (((i : Int), ((j + (m + 1) : Nat) : Int), true)); rw [show j + 1 + m = j + (m + 1) by omega]
   have hin := inner t.f1.length 0 k (by omega) (by omega) (by simp only [costE] at hk; omega)
   rw [List.drop_zero] at hin
   rw [show ((0 : Nat) : Int) = 0 from rfl] at hin
   rw [hin, conE]
   cases findS s t.f1 with
   | none => rfl
   | some m => show some (((i : Int), ((0 + m : Nat) : Int), true)) = some (((i : Int), ((m : Nat) : Int), true)); rw [Nat.zero_add]
theorem con_eq (s : ByteArray) (es : List S38) (ns : List S35) (hes : es.length ≤ 9223372036854775807) (ht : ∀ t, t ∈ es → t.f1.length ≤ 9223372036854775807) : penduleref05_Con.f (costE es + 1) es ns s = some (conR es s) := by
 unfold penduleref05_Con.f conR
 by_cases e1 : s = falseS
 · rw [if_pos (by rw [e1]; decide +kernel), if_pos e1]
 · have n1 : ¬ s.toList = ([70, 97, 108, 115, 101] : List UInt8) := fun h => e1 (toList_inj (h.trans (by decide +kernel)))
   rw [if_neg n1, if_neg e1]
   by_cases e2 : s = trueS
   · rw [if_pos (by rw [e2]; decide +kernel), if_pos e2]
   · have n2 : ¬ s.toList = ([84, 114, 117, 101] : List UInt8) := fun h => e2 (toList_inj (h.trans (by decide +kernel)))
     rw [if_neg n2, if_neg e2]
     exact con_loops s es ns hes es 0 (List.drop_zero ..) ht _ (by omega)
theorem node_loop (s : ByteArray) (es : List S38) (ns : List S35) (hns : ns.length ≤ 9223372036854775807) (d : Nat) : ∀ (k i : Nat), i ≤ ns.length → ns.length - i = d → d < k →
   penduleref05_Node.l0 k s (i : Int) es ns = some (match findN s (ns.drop i) with | some j => (((i + j : Nat) : Int), true) | none => (0, false)) := by
 induction d with
 | zero =>
   intro k i hi hd hk
   obtain ⟨k, rfl⟩ : ∃ m, k = m + 1 := ⟨k - 1, by omega⟩
   obtain rfl : i = ns.length := by omega
   simp only [penduleref05_Node.l0]
   rw [if_neg (by omega), List.drop_length]; rfl
 | succ d ih =>
   intro k i hi hd hk
   obtain ⟨k, rfl⟩ : ∃ m, k = m + 1 := ⟨k - 1, by omega⟩
   have hlt : i < ns.length := by omega
   have hdr : ns.drop i = ns[i] :: ns.drop (i + 1) := List.drop_eq_getElem_cons hlt
   have hrd : rd_T35 ns (i : Int) = ns[i] := by unfold rd_T35; simp [List.getD_eq_getElem?_getD, List.getElem?_eq_getElem hlt]
   simp only [penduleref05_Node.l0]
   rw [if_pos (by omega), if_pos (by omega), hrd, hdr]
   by_cases e : ns[i].f0.toList = s.toList
   · rw [if_pos e, findN, if_pos ((zsameS_iff _ _).2 (toList_inj e))]; rfl
   · have hne : ¬ sameS ns[i].f0 s = true := fun h => e (by rw [(zsameS_iff _ _).1 h])
     rw [if_neg e, wrap_add (by omega) (by omega), findN, if_neg hne]
     have := ih k (i + 1) (by omega) (by omega) (by omega)
     rw [show ((i : Nat) : Int) + 1 = ((i + 1 : Nat) : Int) by omega, this]
     cases findN s (ns.drop (i + 1)) with
     | none => rfl
     | some j => show some ((((i + 1 + j : Nat) : Int), true)) = some ((((i + (j + 1) : Nat) : Int), true)); rw [show i + 1 + j = i + (j + 1) by omega]
theorem node_eq (s : ByteArray) (es : List S38) (ns : List S35) (hns : ns.length ≤ 9223372036854775807) : penduleref05_Node.f (ns.length + 1) es ns s = some ((((findN s ns).getD 0 : Nat) : Int), (findN s ns).isSome) := by
 have := node_loop s es ns hns ns.length (ns.length + 1) 0 (by omega) (by omega) (by omega)
 rw [List.drop_zero, show ((0 : Nat) : Int) = 0 from rfl] at this
 unfold penduleref05_Node.f
 rw [this]
 cases findN s ns with
 | none => rfl
 | some j => show some ((((0 + j : Nat) : Int), true)) = some (((j : Nat) : Int), true); rw [Nat.zero_add]
theorem cons_len {w : World} {A : Option Addr} {es : List S38} (h : k38.C w A es.length es) : ∀ t, t ∈ es → t.f1.length ≤ 9223372036854775807 := by
 intro t ht
 obtain ⟨i, hi, e⟩ := List.getElem_of_mem ht
 obtain ⟨ad, cs, _, _, hK, _⟩ := Kd.C_get h z38 (i : Int) (by omega) (by omega)
 rw [Int.toNat_natCast, List.getD_eq_getElem?_getD, List.getElem?_eq_getElem hi] at hK
 simp only [Option.getD_some, e] at hK
 obtain ⟨A1, c1, _, _, g1⟩ := k38_open hK
 exact g1.2.1
def Ev {α : Type} (F : Nat → Option α) (r : α) : Prop := ∃ K0, ∀ K, K0 ≤ K → F K = some r
theorem Ev.succ {α : Type} {F G : Nat → Option α} {r : α} (h : Ev G r) (hs : ∀ k, F (k + 1) = G k) : Ev F r := by
 obtain ⟨K0, h⟩ := h
 refine ⟨K0 + 1, fun K hK => ?_⟩
 obtain ⟨k, rfl⟩ : ∃ m, K = m + 1 := ⟨K - 1, by omega⟩
 rw [hs]; exact h k (by omega)
theorem Ev.const {α : Type} {F : Nat → Option α} {r : α} (hs : ∀ k, F (k + 1) = some r) : Ev F r := by
 refine ⟨1, fun K hK => ?_⟩
 obtain ⟨k, rfl⟩ : ∃ m, K = m + 1 := ⟨K - 1, by omega⟩
 exact hs k
theorem Ev.bind {α β : Type} {F : Nat → Option β} {G : Nat → Option α} {H : α → Nat → Option β} {r : α} {s : β} (hg : Ev G r) (hh : Ev (H r) s) (hs : ∀ k, F (k + 1) = (G k).bind (fun t => H t k)) : Ev F s := by
 obtain ⟨K1, h1⟩ := hg
 obtain ⟨K2, h2⟩ := hh
 refine ⟨K1 + K2 + 1, fun K hK => ?_⟩
 obtain ⟨k, rfl⟩ : ∃ m, K = m + 1 := ⟨K - 1, by omega⟩
 rw [hs, h1 k (by omega)]; exact h2 k (by omega)
theorem Ev.to {α : Type} {F G : Nat → Option α} {r : α} (h : Ev G r) (hs : ∀ k, F k = G k) : Ev F r := by
 obtain ⟨K0, h⟩ := h
 exact ⟨K0, fun K hK => by rw [hs]; exact h K hK⟩
theorem Ev.bind0 {α β : Type} {F : Nat → Option β} {G : Nat → Option α} {H : α → Nat → Option β} {r : α} {s : β} (hg : Ev G r) (hh : Ev (H r) s) (hs : ∀ k, F k = (G k).bind (fun t => H t k)) : Ev F s := by
 obtain ⟨K1, h1⟩ := hg
 obtain ⟨K2, h2⟩ := hh
 exact ⟨K1 + K2, fun K hK => by rw [hs, h1 K (by omega)]; exact h2 K (by omega)⟩
theorem Ev.some {α : Type} (r : α) : Ev (fun _ => Option.some r) r := ⟨0, fun _ _ => rfl⟩
theorem Ev.at_ {α : Type} {F : Nat → Option α} {r : α} (h : Ev F r) : ∃ k, F k = Option.some r := by obtain ⟨K0, h⟩ := h; exact ⟨K0, h K0 (Nat.le_refl _)⟩
theorem rdOf_at (l : List ByteArray) (i : Nat) (h : i < l.length) : rdOf ByteArray.empty l (i : Int) = l[i] := by
 unfold rdOf
 simp [List.getD_eq_getElem?_getD, List.getElem?_eq_getElem h]
theorem unlikeB_take {l : List ByteArray} {i : Nat} (h : unlikeB (l.take i) = false) : unlikeB l = false := by
 unfold unlikeB at h ⊢
 rw [decide_eq_false_iff_not] at h ⊢
 exact fun hn => h (hn.sublist (List.take_sublist i l))
theorem zcon_f (s : ByteArray) (es : List S38) (ns : List S35) (hes : es.length ≤ 9223372036854775807) (ht : ∀ t, t ∈ es → t.f1.length ≤ 9223372036854775807) : Ev (fun k => penduleref05_Con.f k es ns s) (conR es s) := by
 refine ⟨costE es + 1, fun k hk => ?_⟩
 obtain ⟨d, rfl⟩ : ∃ d, k = (costE es + 1) + d := ⟨k - (costE es + 1), by omega⟩
 exact more_rounds (fun j => penduleref05_Con.mono es ns s j) (costE es + 1) d _ (con_eq s es ns hes ht)
theorem znode_f (s : ByteArray) (es : List S38) (ns : List S35) (hns : ns.length ≤ 9223372036854775807) : Ev (fun k => penduleref05_Node.f k es ns s) ((((findN s ns).getD 0 : Nat) : Int), (findN s ns).isSome) := by
 refine ⟨ns.length + 1, fun k hk => ?_⟩
 obtain ⟨d, rfl⟩ : ∃ d, k = (ns.length + 1) + d := ⟨k - (ns.length + 1), by omega⟩
 exact more_rounds (fun j => penduleref05_Node.mono es ns s j) (ns.length + 1) d _ (node_eq s es ns hns)
theorem zsame (a b : List ByteArray) (h : a.length = b.length) (hl : a.length ≤ 9223372036854775807) (d : Nat) : ∀ i, i ≤ a.length → a.length - i = d → Ev (fun k => penduleref01_SameNames.l0 k a b (i : Int)) (sameL (a.drop i) (b.drop i)) := by
 induction d with
 | zero =>
   intro i hi hd
   obtain rfl : i = a.length := by omega
   exact Ev.const fun k => by simp only [penduleref01_SameNames.l0]; rw [if_neg (by omega), List.drop_length, h, List.drop_length]; rfl
 | succ d ih =>
   intro i hi hd
   have hlt : i < a.length := by omega
   have hlb : i < b.length := by omega
   have e1 : a.drop i = a[i] :: a.drop (i + 1) := List.drop_eq_getElem_cons hlt
   have e2 : b.drop i = b[i] :: b.drop (i + 1) := List.drop_eq_getElem_cons hlb
   rw [e1, e2]
   by_cases e : a[i] = b[i]
   · have hs : sameL (a[i] :: a.drop (i + 1)) (b[i] :: b.drop (i + 1)) = sameL (a.drop (i + 1)) (b.drop (i + 1)) := by unfold sameL; rw [decide_eq_decide, List.cons.injEq]; exact ⟨fun h => h.2, fun h => ⟨e, h⟩⟩
     rw [hs]
     exact (ih (i + 1) (by omega) (by omega)).succ fun k => by simp only [penduleref01_SameNames.l0]; rw [if_pos (by omega), if_pos (by omega), if_pos (by omega), rdOf_at a i hlt, rdOf_at b i hlb, if_pos (by rw [e]), wrap_add (by omega) (by omega)]; rfl
   · have hs : sameL (a[i] :: a.drop (i + 1)) (b[i] :: b.drop (i + 1)) = false := by unfold sameL; rw [decide_eq_false_iff_not, List.cons.injEq]; exact fun h => e h.1
     rw [hs]
     exact Ev.const fun k => by simp only [penduleref01_SameNames.l0]; rw [if_pos (by omega), if_pos (by omega), if_pos (by omega), rdOf_at a i hlt, rdOf_at b i hlb, if_neg (fun h => e (toList_inj h))]
theorem zsame_f (a b : List ByteArray) (hl : a.length ≤ 9223372036854775807) : Ev (fun k => penduleref01_SameNames.f k a b) (sameL a b) := by
 by_cases h : a.length = b.length
 · exact (zsame a b h hl a.length 0 (by omega) (by omega)).to fun k => by unfold penduleref01_SameNames.f; rw [if_pos (by omega)]; rfl
 · have hs : sameL a b = false := by unfold sameL; rw [decide_eq_false_iff_not]; intro e; exact h (by rw [e])
   rw [hs]
   exact (Ev.some false).to fun k => by unfold penduleref01_SameNames.f; rw [if_neg (by omega)]
theorem sameL_comm (a b : List ByteArray) : sameL a b = sameL b a := by
 unfold sameL
 exact decide_eq_decide.2 ⟨fun h => h.symm, fun h => h.symm⟩
theorem rd_en (es : List S38) (i : Nat) (h : i < es.length) : rd_T38 es (i : Int) = es[i] := by unfold rd_T38; simp [List.getD_eq_getElem?_getD, List.getElem?_eq_getElem h]
theorem zall (cons : List ByteArray) (es : List S38) (ns : List S35) (hc : cons.length ≤ 9223372036854775807) (hes : es.length ≤ 9223372036854775807) (d : Nat) : ∀ i, i ≤ es.length → es.length - i = d → Ev (fun k => penduleref05_all.l0 k cons (i : Int) es ns) ((es.drop i).any (fun t => sameL t.f1 cons)) := by
 induction d with
 | zero =>
   intro i hi hd
   obtain rfl : i = es.length := by omega
   exact Ev.const fun k => by simp only [penduleref05_all.l0]; rw [if_neg (by omega), List.drop_length]; rfl
 | succ d ih =>
   intro i hi hd
   have hlt : i < es.length := by omega
   rw [List.drop_eq_getElem_cons hlt, List.any_cons, sameL_comm]
   refine Ev.bind (H := fun t k => if t = true then Option.some true else penduleref05_all.l0 k cons (wrap64 ((i : Int) + 1)) es ns) (zsame_f cons es[i].f1 hc) ?_ (fun k => by simp only [penduleref05_all.l0]; rw [if_pos (by omega), if_pos (by omega), rd_en es i hlt])
   cases hq : sameL cons es[i].f1 with
   | true => exact (Ev.some true).to fun k => by simp
   | false => exact (ih (i + 1) (by omega) (by omega)).to fun k => by rw [if_neg Bool.false_ne_true, wrap_add (by omega) (by omega)]; rfl
theorem zall_f (cons : List ByteArray) (es : List S38) (ns : List S35) (hc : cons.length ≤ 9223372036854775807) (hes : es.length ≤ 9223372036854775807) : Ev (fun k => penduleref05_all.f k es ns cons) (wholeB es cons) := by
 refine Ev.bind0 (H := fun t k => if t = true then Option.some true else penduleref05_all.l0 k cons 0 es ns) (zsame_f cons truths hc) ?_ (fun k => rfl)
 unfold wholeB
 cases hq : sameL cons truths with
 | true => exact (Ev.some true).to fun k => by simp
 | false => exact (zall cons es ns hc hes es.length 0 (by omega) (by omega)).to fun k => by rw [if_neg Bool.false_ne_true]; rfl
def zenumB (es : List S38) (i : Nat) (t : S38) : Bool := !(es.take i).any (fun u => decide (u.f0 = t.f0)) && (t.f1.all (fun c => !(conR (es.take i) c).2.2) && unlikeB t.f1)
def nodeSt (n : S35) : List ByteArray := n.f4.flatMap stNames
def statesL (ns : List S35) (k b : Nat) : List ByteArray := (ns.take k).flatMap nodeSt ++ ((ns.getD k z35).f4.take b).flatMap stNames
theorem rd_st (l : List S65) (i : Nat) (h : i < l.length) : rd_T65 l (i : Int) = l[i] := by unfold rd_T65; simp [List.getD_eq_getElem?_getD, List.getElem?_eq_getElem h]
theorem rd_it (l : List S47) (i : Nat) (h : i < l.length) : rd_T47 l (i : Int) = l[i] := by unfold rd_T47; simp [List.getD_eq_getElem?_getD, List.getElem?_eq_getElem h]
theorem rd_nd (l : List S35) (i : Nat) (h : i < l.length) : rd_T35 l (i : Int) = l[i] := by unfold rd_T35; simp [List.getD_eq_getElem?_getD, List.getElem?_eq_getElem h]
theorem zst2 (es : List S38) (ns : List S35) (a b : Int) (i j : Nat) (hj : j < 9223372036854775807) (st : List S65) (r : List ByteArray) (hs : st.length ≤ 9223372036854775807) (d : Nat) : ∀ (n : Nat) (acc : List ByteArray), n ≤ st.length → st.length - n = d → acc.length + d ≤ 8796093022207 →
   Ev (fun k => penduleref05_States.l1 k a b (acc ++ (st.drop n).map (fun s => s.f0)) (i : Int) ((j + 1 : Nat) : Int) es ns) r → Ev (fun k => penduleref05_States.l2 k a b acc (i : Int) (j : Int) st (n : Int) es ns) r := by
 induction d with
 | zero =>
   intro n acc hn hd hb h
   obtain rfl : n = st.length := by omega
   rw [List.drop_length, List.map_nil, List.append_nil] at h
   exact h.succ fun k => by simp only [penduleref05_States.l2]; rw [if_neg (by omega), wrap_add (by omega) (by omega)]; rfl
 | succ d ih =>
   intro n acc hn hd hb h
   have hlt : n < st.length := by omega
   rw [List.drop_eq_getElem_cons hlt, List.map_cons, List.append_cons] at h
   exact (ih (n + 1) (acc ++ [st[n].f0]) (by omega) (by omega) (by rw [List.length_append, List.length_singleton]; omega) h).succ fun k => by simp only [penduleref05_States.l2]; rw [if_pos (by omega), if_pos (by omega), if_pos (by omega), rd_st st n hlt, wrap_add (by omega) (by omega)]; rfl
theorem zst1 (es : List S38) (ns : List S35) (a b : Nat) (i : Nat) (hi : i < ns.length) (hns : ns.length ≤ 9223372036854775807) (r : List ByteArray) (its : List S47) (hits : ns[i].f4 = its) (hil : its.length ≤ 9223372036854775807) (hst : ∀ x, x ∈ its → x.f1.length ≤ 9223372036854775807) (lim : Nat) (hlim : lim = if i = a then min b its.length else its.length) (d : Nat) : ∀ (j : Nat) (acc : List ByteArray), j ≤ lim → lim - j = d → acc.length + (((its.take lim).drop j).flatMap stNames).length ≤ 8796093022207 →
   Ev (fun k => penduleref05_States.l0 k (a : Int) (b : Int) (acc ++ ((its.take lim).drop j).flatMap stNames) ((i + 1 : Nat) : Int) es ns) r → Ev (fun k => penduleref05_States.l1 k (a : Int) (b : Int) acc (i : Int) (j : Int) es ns) r := by
 have hll : lim ≤ its.length := by rw [hlim]; split <;> omega
 induction d with
 | zero =>
   intro j acc hj hd hb h
   obtain rfl : j = lim := by omega
   rw [List.drop_eq_nil_of_le (by rw [List.length_take]; omega), List.flatMap_nil, List.append_nil] at h
   by_cases e : j < its.length
   · by_cases ea : i = a
     · have hge : ((j : Int) ≥ (b : Int)) := by rw [if_pos ea] at hlim; omega
       refine (Ev.succ (F := fun k => penduleref05_States.j3 k (a : Int) (b : Int) acc (i : Int) (j : Int) true es ns) h (fun k => by simp only [penduleref05_States.j3]; rw [if_pos trivial, wrap_add (by omega) (by omega)]; rfl)).succ fun k => ?_
       simp only [penduleref05_States.l1]
       rw [if_pos (by omega), if_pos (by omega), rd_nd ns i hi, hits, if_pos (by omega), if_pos (by omega), decide_eq_true hge]
     · rw [if_neg ea] at hlim; omega
   · exact h.succ fun k => by simp only [penduleref05_States.l1]; rw [if_pos (by omega), if_pos (by omega), rd_nd ns i hi, hits, if_neg (by omega), wrap_add (by omega) (by omega)]; rfl
 | succ d ih =>
   intro j acc hj hd hb h
   have hlt : j < its.length := by omega
   have hlt2 : j < (its.take lim).length := by rw [List.length_take]; omega
   have hg : (its.take lim)[j] = its[j] := List.getElem_take ..
   rw [List.drop_eq_getElem_cons hlt2, List.flatMap_cons, hg] at h hb
   rw [← List.append_assoc] at h
   rw [List.length_append] at hb
   have hsl : (stNames its[j]).length = its[j].f1.length := List.length_map ..
   have h2 := ih (j + 1) (acc ++ stNames its[j]) (by omega) (by omega) (by rw [List.length_append]; omega) h
   have h3 := zst2 es ns (a : Int) (b : Int) i j (by omega) its[j].f1 r (hst _ (List.getElem_mem hlt)) its[j].f1.length 0 acc (by omega) (by omega) (by omega) (by rw [List.drop_zero]; exact h2)
   have h4 : Ev (fun k => penduleref05_States.j3 k (a : Int) (b : Int) acc (i : Int) (j : Int) false es ns) r := h3.succ fun k => by simp only [penduleref05_States.j3]; rw [if_neg Bool.false_ne_true, if_pos (by omega), if_pos (by omega), if_pos (by omega), rd_nd ns i hi, hits, if_pos (by omega), rd_it its j hlt]; rfl
   refine h4.succ fun k => ?_
   simp only [penduleref05_States.l1]
   rw [if_pos (by omega), if_pos (by omega), rd_nd ns i hi, hits, if_pos (by omega)]
   by_cases ea : i = a
   · rw [if_pos (by omega), decide_eq_false (by rw [if_pos ea] at hlim; omega)]
   · rw [if_neg (by omega)]
theorem zst0 (es : List S38) (ns : List S35) (a b : Nat) (ha : a < ns.length) (hns : ns.length ≤ 9223372036854775807) (hil : ∀ n, n ∈ ns → n.f4.length ≤ 9223372036854775807 ∧ ∀ x, x ∈ n.f4 → x.f1.length ≤ 9223372036854775807) (d : Nat) : ∀ (i : Nat) (acc : List ByteArray), i ≤ a → a - i = d → acc.length + (((ns.take a).drop i).flatMap nodeSt ++ ((ns.getD a z35).f4.take b).flatMap stNames).length ≤ 8796093022207 →
   Ev (fun k => penduleref05_States.l0 k (a : Int) (b : Int) acc (i : Int) es ns) (acc ++ (((ns.take a).drop i).flatMap nodeSt ++ ((ns.getD a z35).f4.take b).flatMap stNames)) := by
 have step : ∀ (i : Nat) (acc r : List ByteArray), i ≤ a → Ev (fun k => penduleref05_States.l1 k (a : Int) (b : Int) acc (i : Int) ((0 : Nat) : Int) es ns) r → Ev (fun k => penduleref05_States.l0 k (a : Int) (b : Int) acc (i : Int) es ns) r := by
   intro i acc r hi h
   refine (Ev.succ (F := fun k => penduleref05_States.j1 k (a : Int) (b : Int) acc (i : Int) true es ns) h (fun k => by simp only [penduleref05_States.j1]; rw [if_pos trivial]; rfl)).succ fun k => ?_
   simp only [penduleref05_States.l0]
   rw [if_pos (by omega), decide_eq_true (by omega)]
 induction d with
 | zero =>
   intro i acc hi hd hb
   obtain rfl : i = a := by omega
   have hgd : ns.getD i z35 = ns[i] := by rw [List.getD_eq_getElem?_getD, List.getElem?_eq_getElem ha]; rfl
   rw [List.drop_eq_nil_of_le (by rw [List.length_take]; omega), List.flatMap_nil, List.nil_append, hgd] at hb ⊢
   obtain ⟨q1, q2⟩ := hil ns[i] (List.getElem_mem ha)
   have hmin : ns[i].f4.take b = ns[i].f4.take (min b ns[i].f4.length) := by rw [List.take_eq_take_min]
   rw [hmin] at hb ⊢
   refine step i acc _ (by omega) (zst1 es ns i b i ha hns _ ns[i].f4 rfl q1 q2 (min b ns[i].f4.length) (by rw [if_pos rfl]) _ 0 acc (by omega) rfl (by rw [List.drop_zero]; exact hb) ?_)
   rw [List.drop_zero]
   refine Ev.succ (Ev.const (F := fun k => penduleref05_States.j1 k (i : Int) (b : Int) (acc ++ (ns[i].f4.take (min b ns[i].f4.length)).flatMap stNames) ((i + 1 : Nat) : Int) false es ns) (fun k => by simp only [penduleref05_States.j1]; rw [if_neg Bool.false_ne_true])) fun k => ?_
   simp only [penduleref05_States.l0]
   rw [if_neg (by omega)]
 | succ d ih =>
   intro i acc hi hd hb
   have hlt : i < ns.length := by omega
   have hlt2 : i < (ns.take a).length := by rw [List.length_take]; omega
   have hg : (ns.take a)[i] = ns[i] := List.getElem_take ..
   rw [List.drop_eq_getElem_cons hlt2, List.flatMap_cons, hg, List.append_assoc] at hb ⊢
   rw [List.length_append] at hb
   obtain ⟨q1, q2⟩ := hil ns[i] (List.getElem_mem hlt)
   have h2 := ih (i + 1) (acc ++ nodeSt ns[i]) (by omega) (by omega) (by rw [List.length_append]; omega)
   rw [List.append_assoc] at h2
   refine step i acc _ (by omega) (zst1 es ns a b i hlt hns _ ns[i].f4 rfl q1 q2 ns[i].f4.length (by rw [if_neg (by omega)]) _ 0 acc (by omega) rfl ?_ ?_)
   · rw [List.drop_zero, List.take_length]; show acc.length + (nodeSt ns[i]).length ≤ _; omega
   · rw [List.drop_zero, List.take_length]; exact h2
theorem zstates_f (es : List S38) (ns : List S35) (a b : Nat) (ha : a < ns.length) (hns : ns.length ≤ 9223372036854775807) (hil : ∀ n, n ∈ ns → n.f4.length ≤ 9223372036854775807 ∧ ∀ x, x ∈ n.f4 → x.f1.length ≤ 9223372036854775807) (hb : (statesL ns a b).length ≤ 8796093022207) : Ev (fun k => penduleref05_States.f k es ns (a : Int) (b : Int)) (statesL ns a b) := by
 have := zst0 es ns a b ha hns hil a 0 [] (by omega) (by omega) (by rw [List.drop_zero]; simpa [statesL] using hb)
 rw [List.drop_zero, List.nil_append] at this
 exact this
end Go.Proofs.YtggfnbnochmkdaaGreat
