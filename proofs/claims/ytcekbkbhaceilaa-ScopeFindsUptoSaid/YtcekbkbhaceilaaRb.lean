/- Plain laws: which enum has a constructor, which number a node has: the reference's answers; where a text stands in a list. -/
import Derived.Test.YtcekbkbhaceilaaSu
import Derived.Test.YtcekbkbhaceilaaPScopex2
namespace Go.Proofs.Ytcekbkbhaceilaa
open Go Go.RowKit Go.Lib Go.Proofs.YtcekbkbhaceilaaW.PrintWords Go.Proofs.Ytcekbkbhaceilaa.PScope
set_option maxRecDepth 100000
set_option linter.unusedSimpArgs false
set_option linter.unusedVariables false

def findS (s : ByteArray) : List ByteArray → Option Nat
  | [] => none
  | a :: r => if a = s then some 0 else (findS s r).map (· + 1)
def findI (i : Nat) (q : Option Nat) : Int := match q with | some j => ((i + j : Nat) : Int) | none => -1
theorem index_exact (l : List ByteArray) (a : ByteArray) (hl : l.length ≤ 9223372036854775807) (d : Nat) : ∀ (k i : Nat), i ≤ l.length → l.length - i = d → d < k →
    slices_Index_string_string.l0 k l a (l.length : Int) (i : Int) = some (findI i (findS a (l.drop i))) := by
  induction d with
  | zero =>
    intro k i hi hd hk
    obtain ⟨k, rfl⟩ : ∃ m, k = m + 1 := ⟨k - 1, by omega⟩
    obtain rfl : i = l.length := by omega
    simp only [slices_Index_string_string.l0]
    rw [if_neg (by omega), List.drop_length]; rfl
  | succ d ih =>
    intro k i hi hd hk
    obtain ⟨k, rfl⟩ : ∃ m, k = m + 1 := ⟨k - 1, by omega⟩
    have hlt : i < l.length := by omega
    have hdr : l.drop i = l[i] :: l.drop (i + 1) := List.drop_eq_getElem_cons hlt
    have hrd : rdOf ByteArray.empty l (i : Int) = l[i] := by simp [rdOf, hlt]
    simp only [slices_Index_string_string.l0]
    rw [if_pos (by omega), if_pos (by omega), if_pos (by omega), hrd, hdr]
    by_cases e : a.toList = l[i].toList
    · rw [if_pos e, findS, if_pos (toList_inj e).symm]; rfl
    · have hne : ¬ l[i] = a := by rintro rfl; exact e rfl
      rw [if_neg e, wrap_add (by omega) (by omega), findS, if_neg hne]
      have := ih k (i + 1) (by omega) (by omega) (by omega)
      rw [show ((i : Nat) : Int) + 1 = ((i + 1 : Nat) : Int) by omega, this]
      cases findS a (l.drop (i + 1)) with
      | none => rfl
      | some j => show some (((i + 1 + j : Nat) : Int)) = some (((i + (j + 1) : Nat) : Int)); congr 2; omega
theorem index_eq (l : List ByteArray) (a : ByteArray) (hl : l.length ≤ 9223372036854775807) : slices_Index_string_string.f (l.length + 1) l a = some (findI 0 (findS a l)) := by
  have := index_exact l a hl l.length (l.length + 1) 0 (by omega) (by omega) (by omega)
  simpa [slices_Index_string_string.f] using this
def conE (s : ByteArray) : List S72 → Nat → Int × Int × Bool
  | [], _ => (0, 0, false)
  | t :: r, i => match findS s t.f1 with | some k => ((i : Int), (k : Int), true) | none => conE s r (i + 1)
def conR (es : List S72) (s : ByteArray) : Int × Int × Bool := if s = falseS then (-1, 0, true) else if s = trueS then (-1, 1, true) else conE s es 0
theorem F0_some {s : ByteArray} {c : Int × Int} (es : List S72) (h : F0 s = some c) : conR es s = (c.1, c.2, true) := by
  unfold F0 mupd at h
  unfold conR
  by_cases e1 : s = trueS
  · have e2 : ¬ s = falseS := by rw [e1]; decide +kernel
    simp only [if_pos e1] at h; cases h
    rw [if_neg e2, if_pos e1]
  · simp only [if_neg e1] at h
    by_cases e2 : s = falseS
    · rw [if_pos e2] at h; cases h; rw [if_pos e2]
    · rw [if_neg e2] at h; cases h
theorem F0_none {s : ByteArray} (es : List S72) (h : F0 s = none) : conR es s = conE s es 0 := by
  unfold F0 mupd at h
  unfold conR
  by_cases e1 : s = trueS
  · rw [if_pos e1] at h; cases h
  · rw [if_neg e1] at h
    by_cases e2 : s = falseS
    · rw [if_pos e2] at h; cases h
    · rw [if_neg e2, if_neg e1]
def costE : List S72 → Nat
  | [] => 0
  | t :: r => t.f1.length + 2 + costE r
theorem rd_drop (es r : List S72) (t : S72) (i : Nat) (h : es.drop i = t :: r) : i < es.length ∧ rd_T72 es (i : Int) = t ∧ es.drop (i + 1) = r := by
  have hi : i < es.length := by
    by_cases hi : i < es.length
    · exact hi
    · rw [List.drop_eq_nil_of_le (by omega)] at h; cases h
  rw [List.drop_eq_getElem_cons hi] at h
  injection h with h1 h2
  refine ⟨hi, ?_, h2⟩
  unfold rd_T72
  simp [List.getD_eq_getElem?_getD, List.getElem?_eq_getElem hi, h1]
theorem con_loops (s : ByteArray) (es : List S72) (ns : List S36) (hes : es.length ≤ 9223372036854775807) (r : List S72) : ∀ (i : Nat), es.drop i = r → (∀ t, t ∈ r → t.f1.length ≤ 9223372036854775807) → ∀ k, costE r < k → penduleref05_Con.l0 k s (i : Int) es ns = some (conE s r i) := by
  induction r with
  | nil =>
    intro i h _ k hk
    obtain ⟨k, rfl⟩ : ∃ m, k = m + 1 := ⟨k - 1, by omega⟩
    have hi : es.length ≤ i := List.drop_eq_nil_iff.1 h
    simp only [penduleref05_Con.l0]
    rw [if_neg (by omega)]; rfl
  | cons t r ih =>
    intro i h ht k hk
    obtain ⟨hi, hrd, hdr⟩ := rd_drop es r t i h
    obtain ⟨k, rfl⟩ : ∃ m, k = m + 1 := ⟨k - 1, by omega⟩
    simp only [penduleref05_Con.l0]
    rw [if_pos (by omega)]
    have htl := ht t (List.mem_cons_self ..)
    have inner : ∀ (d j k : Nat), j ≤ t.f1.length → t.f1.length - j = d → d + 1 + costE r < k → penduleref05_Con.l1 k s (i : Int) (j : Int) es ns = some (match findS s (t.f1.drop j) with | some m => ((i : Int), ((j + m : Nat) : Int), true) | none => conE s r (i + 1)) := by
      intro d
      induction d with
      | zero =>
        intro j k hj hd hk
        obtain ⟨k, rfl⟩ : ∃ m, k = m + 1 := ⟨k - 1, by omega⟩
        obtain rfl : j = t.f1.length := by omega
        simp only [penduleref05_Con.l1]
        rw [if_pos (by omega), if_pos (by omega), hrd, if_neg (by omega), wrap_add (by omega) (by omega), List.drop_length]
        have := ih (i + 1) hdr (fun y hy => ht y (List.mem_cons_of_mem _ hy)) k (by omega)
        rw [show ((i : Nat) : Int) + 1 = ((i + 1 : Nat) : Int) by omega, this]; rfl
      | succ d ihd =>
        intro j k hj hd hk
        obtain ⟨k, rfl⟩ : ∃ m, k = m + 1 := ⟨k - 1, by omega⟩
        have hlt : j < t.f1.length := by omega
        have hdj : t.f1.drop j = t.f1[j] :: t.f1.drop (j + 1) := List.drop_eq_getElem_cons hlt
        have hrj : rdOf ByteArray.empty t.f1 (j : Int) = t.f1[j] := by simp [rdOf, hlt]
        simp only [penduleref05_Con.l1]
        rw [if_pos (by omega), if_pos (by omega), hrd, if_pos (by omega), if_pos (by omega), hrj, hdj]
        by_cases e : t.f1[j].toList = s.toList
        · rw [if_pos e, findS, if_pos (toList_inj e)]; rfl
        · have hne : ¬ t.f1[j] = s := by intro h_; exact e (by rw [h_])
          rw [if_neg e, wrap_add (by omega) (by omega), findS, if_neg hne]
          have := ihd (j + 1) k (by omega) (by omega) (by omega)
          rw [show ((j : Nat) : Int) + 1 = ((j + 1 : Nat) : Int) by omega, this]
          cases findS s (t.f1.drop (j + 1)) with
          | none => rfl
          | some m => show some (((i : Int), ((j + 1 + m : Nat) : Int), true)) = some (((i : Int), ((j + (m + 1) : Nat) : Int), true)); rw [show j + 1 + m = j + (m + 1) by omega]
    have hin := inner t.f1.length 0 k (by omega) (by omega) (by simp only [costE] at hk; omega)
    rw [List.drop_zero] at hin
    rw [show ((0 : Nat) : Int) = 0 from rfl] at hin
    rw [hin, conE]
    cases findS s t.f1 with
    | none => rfl
    | some m => show some (((i : Int), ((0 + m : Nat) : Int), true)) = some (((i : Int), ((m : Nat) : Int), true)); rw [Nat.zero_add]
theorem con_eq (s : ByteArray) (es : List S72) (ns : List S36) (hes : es.length ≤ 9223372036854775807) (ht : ∀ t, t ∈ es → t.f1.length ≤ 9223372036854775807) : penduleref05_Con.f (costE es + 1) es ns s = some (conR es s) := by
  unfold penduleref05_Con.f conR
  by_cases e1 : s = falseS
  · rw [if_pos (by rw [e1]; decide +kernel), if_pos e1]
  · have n1 : ¬ s.toList = ([70, 97, 108, 115, 101] : List UInt8) := fun h => e1 (toList_inj (h.trans (by decide +kernel)))
    rw [if_neg n1, if_neg e1]
    by_cases e2 : s = trueS
    · rw [if_pos (by rw [e2]; decide +kernel), if_pos e2]
    · have n2 : ¬ s.toList = ([84, 114, 117, 101] : List UInt8) := fun h => e2 (toList_inj (h.trans (by decide +kernel)))
      rw [if_neg n2, if_neg e2]
      exact con_loops s es ns hes es 0 (List.drop_zero ..) ht _ (by omega)
theorem node_loop (s : ByteArray) (es : List S72) (ns : List S36) (hns : ns.length ≤ 9223372036854775807) (d : Nat) : ∀ (k i : Nat), i ≤ ns.length → ns.length - i = d → d < k →
    penduleref05_Node.l0 k s (i : Int) es ns = some (match findN s (ns.drop i) with | some j => (((i + j : Nat) : Int), true) | none => (0, false)) := by
  induction d with
  | zero =>
    intro k i hi hd hk
    obtain ⟨k, rfl⟩ : ∃ m, k = m + 1 := ⟨k - 1, by omega⟩
    obtain rfl : i = ns.length := by omega
    simp only [penduleref05_Node.l0]
    rw [if_neg (by omega), List.drop_length]; rfl
  | succ d ih =>
    intro k i hi hd hk
    obtain ⟨k, rfl⟩ : ∃ m, k = m + 1 := ⟨k - 1, by omega⟩
    have hlt : i < ns.length := by omega
    have hdr : ns.drop i = ns[i] :: ns.drop (i + 1) := List.drop_eq_getElem_cons hlt
    have hrd : rd_T36 ns (i : Int) = ns[i] := by unfold rd_T36; simp [List.getD_eq_getElem?_getD, List.getElem?_eq_getElem hlt]
    simp only [penduleref05_Node.l0]
    rw [if_pos (by omega), if_pos (by omega), hrd, hdr]
    by_cases e : ns[i].f0.toList = s.toList
    · rw [if_pos e, findN, if_pos ((sameS_iff _ _).2 (toList_inj e))]; rfl
    · have hne : ¬ sameS ns[i].f0 s = true := fun h => e (by rw [(sameS_iff _ _).1 h])
      rw [if_neg e, wrap_add (by omega) (by omega), findN, if_neg hne]
      have := ih k (i + 1) (by omega) (by omega) (by omega)
      rw [show ((i : Nat) : Int) + 1 = ((i + 1 : Nat) : Int) by omega, this]
      cases findN s (ns.drop (i + 1)) with
      | none => rfl
      | some j => show some ((((i + 1 + j : Nat) : Int), true)) = some ((((i + (j + 1) : Nat) : Int), true)); rw [show i + 1 + j = i + (j + 1) by omega]
theorem node_eq (s : ByteArray) (es : List S72) (ns : List S36) (hns : ns.length ≤ 9223372036854775807) : penduleref05_Node.f (ns.length + 1) es ns s = some ((((findN s ns).getD 0 : Nat) : Int), (findN s ns).isSome) := by
  have := node_loop s es ns hns ns.length (ns.length + 1) 0 (by omega) (by omega) (by omega)
  rw [List.drop_zero, show ((0 : Nat) : Int) = 0 from rfl] at this
  unfold penduleref05_Node.f
  rw [this]
  cases findN s ns with
  | none => rfl
  | some j => show some ((((0 + j : Nat) : Int), true)) = some (((j : Nat) : Int), true); rw [Nat.zero_add]
theorem same_loop (l : List ByteArray) (hl : l.length ≤ 9223372036854775807) (d : Nat) : ∀ (k i : Nat), i ≤ l.length → l.length - i = d → d < k → penduleref01_SameNames.l0 k l l (i : Int) = some true := by
  induction d with
  | zero =>
    intro k i hi hd hk
    obtain ⟨k, rfl⟩ : ∃ m, k = m + 1 := ⟨k - 1, by omega⟩
    obtain rfl : i = l.length := by omega
    simp only [penduleref01_SameNames.l0]
    rw [if_neg (by omega)]
  | succ d ih =>
    intro k i hi hd hk
    obtain ⟨k, rfl⟩ : ∃ m, k = m + 1 := ⟨k - 1, by omega⟩
    simp only [penduleref01_SameNames.l0]
    rw [if_pos (by omega), if_pos (by omega), if_pos (by omega), wrap_add (by omega) (by omega)]
    have := ih k (i + 1) (by omega) (by omega) (by omega)
    rw [show ((i : Nat) : Int) + 1 = ((i + 1 : Nat) : Int) by omega, this]; simp
theorem same_eq (l : List ByteArray) (hl : l.length ≤ 9223372036854775807) : penduleref01_SameNames.f (l.length + 1) l l = some true := by
  unfold penduleref01_SameNames.f
  rw [if_pos rfl]
  exact same_loop l hl l.length _ 0 (by omega) (by omega) (by omega)
theorem cons_len {w : World} {A : Option Addr} {es : List S72} (h : k72.C w A es.length es) : ∀ t, t ∈ es → t.f1.length ≤ 9223372036854775807 := by
  intro t ht
  obtain ⟨i, hi, e⟩ := List.getElem_of_mem ht
  obtain ⟨ad, cs, _, _, hK, _⟩ := Kd.C_get h z72 (i : Int) (by omega) (by omega)
  rw [Int.toNat_natCast, List.getD_eq_getElem?_getD, List.getElem?_eq_getElem hi] at hK
  simp only [Option.getD_some, e] at hK
  obtain ⟨A1, c1, _, _, g1⟩ := k72_open hK
  exact g1.2.1
end Go.Proofs.Ytcekbkbhaceilaa
