/- JOINED of 4 texts: What the reference's functions of names come to, as plain functions. The reference: the shape of an expression. The reference: which expressions may be. The reference: an expression that is none; which equations, which items may be. -/
import Derived.Test.YtggfnbnochmkdaaGreatPScopex2
import Derived.Test.YtggfnbnochmkdaaGreatSl
import Derived.Test.YtggfnbnochmkdaaGreatPScopex3
namespace Go.Proofs.YtggfnbnochmkdaaGreat
open Go Go.RowKit Go.Lib Go.Proofs.YtggfnbnochmkdaaGreatW.PrintWords Go.Proofs.YtggfnbnochmkdaaGreat.PScope
set_option maxRecDepth 100000
set_option linter.unusedSimpArgs false
set_option linter.unusedVariables false
theorem small_eq (c : Int) : PScope.penduleref01_small.f c = some (lowerB c) := by
 unfold PScope.penduleref01_small.f lowerB
 by_cases h : c ≥ 97
 · rw [if_pos h, decide_eq_true h, Bool.true_and]
 · rw [if_neg h, decide_eq_false h, Bool.false_and]
theorem great_eq (c : Int) : PScope.penduleref01_great.f c = some (upperB c) := by
 unfold PScope.penduleref01_great.f upperB
 by_cases h : c ≥ 65
 · rw [if_pos h, decide_eq_true h, Bool.true_and]
 · rw [if_neg h, decide_eq_false h, Bool.false_and]
theorem digit_eq (c : Int) : PScope.penduleref01_digit.f c = some (digitB c) := by
 unfold PScope.penduleref01_digit.f digitB
 by_cases h : c ≥ 48
 · rw [if_pos h, decide_eq_true h, Bool.true_and]
 · rw [if_neg h, decide_eq_false h, Bool.false_and]
theorem more_eq (c : Int) : PScope.penduleref01_more.f c = some (innerB c) := by
 unfold PScope.penduleref01_more.f innerB
 rw [small_eq, great_eq, digit_eq]
 simp only [Option.bind_some]
 cases lowerB c <;> cases upperB c <;> cases digitB c <;> simp
theorem run_tells (s : ByteArray) (hs : s.size ≤ 140737488351232) (d : Nat) : ∀ (k i : Nat), i ≤ s.size → s.size - i = d → d < k → (∀ j, j < i → innerB (bt s ((j : Nat) : Int)) = true) →
   PScope.penduleref01_run.l0 k s (i : Int) = some ((spanN innerB s : Nat) : Int) := by
 induction d with
 | zero =>
   intro k i hi hd hk hall
   obtain ⟨k, rfl⟩ : ∃ m, k = m + 1 := ⟨k - 1, by omega⟩
   simp only [PScope.penduleref01_run.l0]
   rw [if_neg (by omega), spanN_of innerB s i hi hall (.inl (by omega))]
 | succ d ih =>
   intro k i hi hd hk hall
   obtain ⟨k, rfl⟩ : ∃ m, k = m + 1 := ⟨k - 1, by omega⟩
   simp only [PScope.penduleref01_run.l0]
   rw [if_pos (by omega), if_pos (by omega), more_eq]
   simp only [Option.bind_some]
   cases hq : innerB (bt s (i : Int)) with
   | true =>
     rw [if_pos rfl, wrap_add (by omega) (by omega)]
     have := ih k (i + 1) (by omega) (by omega) (by omega) (fun j hj => by
       by_cases e : j < i
       · exact hall j e
       · obtain rfl : j = i := by omega
         exact hq)
     exact_mod_cast this
   | false => rw [if_neg (by simp), spanN_of innerB s i hi hall (.inr ⟨by omega, hq⟩)]
theorem run_eq (s : ByteArray) (hs : s.size ≤ 140737488351232) (k : Nat) (hk : s.size < k) : PScope.penduleref01_run.f k s = some ((spanN innerB s : Nat) : Int) :=
 run_tells s hs s.size k 0 (by omega) (by omega) hk (fun j hj => absurd hj (Nat.not_lt_zero _))
theorem has_tells (l : List ByteArray) (a : ByteArray) (hl : l.length < 9223372036854775807) (d : Nat) : ∀ (k i : Nat), i ≤ l.length → l.length - i = d → d < k →
   PScope.penduleref01_Has.l0 k l a (i : Int) = some ((l.drop i).any fun x => decide (x = a)) := by
 induction d with
 | zero =>
   intro k i hi hd hk
   obtain ⟨k, rfl⟩ : ∃ m, k = m + 1 := ⟨k - 1, by omega⟩
   obtain rfl : i = l.length := by omega
   simp only [PScope.penduleref01_Has.l0]
   rw [if_neg (by omega)]; simp
 | succ d ih =>
   intro k i hi hd hk
   obtain ⟨k, rfl⟩ : ∃ m, k = m + 1 := ⟨k - 1, by omega⟩
   have hlt : i < l.length := by omega
   have hdr : l.drop i = l[i] :: l.drop (i + 1) := List.drop_eq_getElem_cons hlt
   have hrd : rdOf ByteArray.empty l (i : Int) = l[i] := by simp [rdOf, hlt]
   simp only [PScope.penduleref01_Has.l0]
   rw [if_pos (by omega), if_pos (by omega), hrd]
   by_cases e : l[i].toList = a.toList
   · rw [if_pos e, hdr, List.any_cons, decide_eq_true (toList_inj e), Bool.true_or]
   · have : ¬ l[i] = a := by rintro rfl; exact e rfl
     rw [if_neg e, hdr, List.any_cons, decide_eq_false this, Bool.false_or, wrap_add (by omega) (by omega)]
     exact_mod_cast ih k (i + 1) (by omega) (by omega) (by omega)
theorem has_eq (l : List ByteArray) (a : ByteArray) (hl : l.length < 9223372036854775807) (k : Nat) (hk : l.length < k) : PScope.penduleref01_Has.f k l a = some (l.any fun x => decide (x = a)) := by
 have := has_tells l a hl l.length k 0 (by omega) (by omega) hk
 simpa [PScope.penduleref01_Has.f] using this
theorem refWords_eq : PScope.penduleref01_Words.f = some wordList := rfl
theorem refCon_eq (s : ByteArray) (k : Nat) (hk : 50 < k) : PScope.penduleref01_IsCon.f k s = some (isConB s) := by
 unfold PScope.penduleref01_IsCon.f isConB shapedB
 by_cases h1 : (s.size : Int) ≥ 1
 · by_cases h2 : (s.size : Int) ≤ 24
   · rw [if_pos h1, if_pos h2, if_pos (by omega), great_eq]
     simp only [Option.bind_some]
     rw [decide_eq_true (show 0 < s.size by omega), decide_eq_true (show s.size ≤ 24 by omega)]
     cases upperB (bt s 0) with
     | true =>
       rw [if_pos rfl, run_eq s (by omega) k (by omega)]
       simp only [Option.bind_some, Bool.true_and]
       congr 1; rw [Bool.eq_iff_iff]; simp; omega
     | false => simp
   · rw [if_pos h1, if_neg h2, decide_eq_false (show ¬ s.size ≤ 24 by omega)]; simp
 · rw [if_neg h1, decide_eq_false (show ¬ 0 < s.size by omega)]; simp
theorem refName_eq (s : ByteArray) (k : Nat) (hk : 50 < k) : PScope.penduleref01_IsName.f k s = some (isNameB s) := by
 unfold PScope.penduleref01_IsName.f isNameB shapedB
 by_cases h1 : (s.size : Int) ≥ 1
 · by_cases h2 : (s.size : Int) ≤ 24
   · rw [if_pos h1, if_pos h2, if_pos (by omega), small_eq]
     simp only [Option.bind_some]
     rw [decide_eq_true (show 0 < s.size by omega), decide_eq_true (show s.size ≤ 24 by omega)]
     cases lowerB (bt s 0) with
     | true =>
       rw [if_pos rfl, run_eq s (by omega) k (by omega)]
       simp only [Option.bind_some, Bool.true_and]
       by_cases h3 : ((spanN innerB s : Nat) : Int) = (s.size : Int)
       · rw [if_pos h3, refWords_eq]
         simp only [Option.bind_some]
         rw [has_eq wordList s (by decide) k (by have : wordList.length = 21 := rfl; omega), decide_eq_true (show spanN innerB s = s.size by omega)]
         simp [isWordB]
       · rw [if_neg h3, decide_eq_false (show ¬ spanN innerB s = s.size by omega)]; simp
     | false => simp
   · rw [if_pos h1, if_neg h2, decide_eq_false (show ¬ s.size ≤ 24 by omega)]; simp
 · rw [if_neg h1, decide_eq_false (show ¬ 0 < s.size by omega)]; simp
def cutB (made : Bool) (s : ByteArray) : ByteArray := if made = true then (if 1 < s.size then (if bt s 0 = 95 then s.extract 1 s.size else s) else s) else s
theorem pre_eq (s : ByteArray) (h : 1 ≤ s.size) : ((s.extract 0 1).toList == ([95] : List UInt8)) = decide (bt s 0 = 95) := by
 have hl : 0 < s.data.toList.length := by
   have : s.data.toList.length = s.size := by simp
   omega
 have hb : bt s 0 = ((s.data.toList[0]).toNat : Int) := by have := bt_get s 0 hl; simpa using this
 have he : (s.extract 0 1).toList = [s.data.toList[0]] := by
   rw [ByteArray.toList_eq, ByteArray.data_extract, Array.toList_extract]
   generalize s.data.toList = l at hl
   cases l with
   | nil => simp at hl
   | cons x r => simp
 rw [he, hb]
 generalize s.data.toList[0] = x
 rw [Bool.eq_iff_iff]
 simp only [beq_iff_eq, List.cons.injEq, and_true, decide_eq_true_eq]
 constructor
 · rintro rfl; rfl
 · intro hx
   have : x.toNat = (95 : UInt8).toNat := by
     have h95 : (95 : UInt8).toNat = 95 := rfl
     omega
   exact UInt8.toNat_inj.1 this
theorem rest_nil (s : ByteArray) (h : 1 ≤ s.size) : (s.extract 1 s.size).toList = ([] : List UInt8) ↔ s.size = 1 := by
 have hl : s.data.toList.length = s.size := by simp
 rw [ByteArray.toList_eq, ByteArray.data_extract, Array.toList_extract]
 constructor
 · intro e
   have := congrArg List.length e
   simp at this
   have hd : s.data.size = s.size := rfl
   omega
 · intro e
   apply List.eq_nil_of_length_eq_zero
   simp
   omega
theorem bare_eq (made : Bool) (s : ByteArray) : bareB made s = cutB made s := by
 have h1 : ((⟨#[95]⟩ : ByteArray).size : Int) = 1 := rfl
 have h2 : (⟨#[95]⟩ : ByteArray).toList = ([95] : List UInt8) := by rw [ByteArray.toList_eq]
 unfold bareB tree_field_bare.f strings_CutPrefix.f stringslite_CutPrefix.f stringslite_HasPrefix.f cutB
 rw [h1, h2]
 by_cases hs : 1 ≤ s.size
 · rw [if_pos (show (s.size : Int) ≥ 1 by omega), if_pos (show (0 : Int) ≤ 1 by omega), if_pos (show (1 : Int) ≤ (s.size : Int) by omega)]
   have hp : ((s.extract 0 ((1 : Int) : Int).toNat).toList == ([95] : List UInt8)) = decide (bt s 0 = 95) := pre_eq s hs
   rw [hp]
   simp only [Option.bind_some]
   by_cases hb : bt s 0 = 95
   · rw [decide_eq_true hb, if_pos rfl, if_pos (show (0 : Int) ≤ 1 by omega), if_pos (show (1 : Int) ≤ (s.size : Int) by omega)]
     simp only [Option.bind_some, if_true]
     cases made with
     | false => simp
     | true =>
       simp only [if_true]
       have hr : (s.extract ((1 : Int) : Int).toNat s.size).toList = ([] : List UInt8) ↔ s.size = 1 := rest_nil s hs
       by_cases h3 : s.size = 1
       · rw [if_pos (hr.2 h3), if_neg (by omega)]; rfl
       · rw [if_neg (fun e => h3 (hr.1 e)), if_pos (by omega), if_pos hb]; rfl
   · rw [decide_eq_false hb]
     simp only [Bool.false_eq_true, if_false, Option.bind_some, if_neg hb, ite_self]
     rfl
 · rw [if_neg (show ¬ (s.size : Int) ≥ 1 by omega)]
   simp only [Option.bind_some, Bool.false_eq_true, if_false]
   rw [if_neg (show ¬ 1 < s.size by omega), ite_self]
   rfl
theorem rname_eq (made : Bool) (s : ByteArray) (k : Nat) (hk : 50 < k) : penduleref02_Name.f k s made = some (nameB made s) := by
 have hq : ∀ t, (penduleref01_IsName.f k t).bind (fun t167 => some t167) = some (isNameB t) := fun t => by rw [refName_eq t k hk]; rfl
 unfold penduleref02_Name.f nameB
 rw [bare_eq]
 unfold cutB
 simp only [hq]
 cases made with
 | false => simp
 | true =>
   simp only [if_true]
   by_cases h1 : 1 < s.size
   · rw [if_pos (by omega), if_pos (by omega), if_pos h1]
     by_cases h2 : bt s 0 = 95
     · rw [if_pos h2, if_pos (by omega), if_pos h2]
     · rw [if_neg h2, if_neg h2]
   · rw [if_neg (by omega), if_neg h1]
theorem rcon_eq (made : Bool) (s : ByteArray) (k : Nat) (hk : 50 < k) : penduleref02_Constructor.f k s made = some (conB made s) := by
 have hq : ∀ t, (penduleref01_IsCon.f k t).bind (fun t167 => some t167) = some (isConB t) := fun t => by rw [refCon_eq t k hk]; rfl
 unfold penduleref02_Constructor.f conB
 rw [bare_eq]
 unfold cutB
 simp only [hq]
 cases made with
 | false => simp
 | true =>
   simp only [if_true]
   by_cases h1 : 1 < s.size
   · rw [if_pos (by omega), if_pos (by omega), if_pos h1]
     by_cases h2 : bt s 0 = 95
     · rw [if_pos h2, if_pos (by omega), if_pos h2]
     · rw [if_neg h2, if_neg h2]
   · rw [if_neg (by omega), if_neg h1]
theorem names_tells (made : Bool) (l : List ByteArray) (a b : Int) (hl : l.length ≤ 9223372036854775807) (d : Nat) : ∀ (k i : Nat), i ≤ l.length → l.length - i = d → d + 51 < k →
   penduleref02_Names.l0 k l a b made (i : Int) = some ((l.drop i).all (nameB made) && (decide (a ≤ l.length) && decide ((l.length : Int) ≤ b))) := by
 induction d with
 | zero =>
   intro k i hi hd hk
   obtain ⟨k, rfl⟩ : ∃ m, k = m + 1 := ⟨k - 1, by omega⟩
   obtain rfl : i = l.length := by omega
   simp only [penduleref02_Names.l0]
   rw [if_neg (by omega), List.drop_length, List.all_nil, Bool.true_and]
   by_cases h : (l.length : Int) ≥ a
   · rw [if_pos h, decide_eq_true (show a ≤ (l.length : Int) from h), Bool.true_and]
   · rw [if_neg h, decide_eq_false (show ¬ a ≤ (l.length : Int) from h), Bool.false_and]
 | succ d ih =>
   intro k i hi hd hk
   obtain ⟨k, rfl⟩ : ∃ m, k = m + 1 := ⟨k - 1, by omega⟩
   have hlt : i < l.length := by omega
   have hdr : l.drop i = l[i] :: l.drop (i + 1) := List.drop_eq_getElem_cons hlt
   have hrd : rdOf ByteArray.empty l (i : Int) = l[i] := by simp [rdOf, hlt]
   simp only [penduleref02_Names.l0]
   rw [if_pos (by omega), if_pos (by omega), hrd, rname_eq made _ k (by omega), hdr, List.all_cons]
   simp only [Option.bind_some]
   cases nameB made l[i] with
   | true =>
     rw [if_pos rfl, wrap_add (by omega) (by omega), Bool.true_and]
     have := ih k (i + 1) (by omega) (by omega) (by omega)
     rw [show ((i : Nat) : Int) + 1 = ((i + 1 : Nat) : Int) by omega, this]
   | false => simp
theorem cons_tells (made : Bool) (l : List ByteArray) (a b : Int) (hl : l.length ≤ 9223372036854775807) (d : Nat) : ∀ (k i : Nat), i ≤ l.length → l.length - i = d → d + 51 < k →
   penduleref02_Cons.l0 k l a b made (i : Int) = some ((l.drop i).all (conB made) && (decide (a ≤ l.length) && decide ((l.length : Int) ≤ b))) := by
 induction d with
 | zero =>
   intro k i hi hd hk
   obtain ⟨k, rfl⟩ : ∃ m, k = m + 1 := ⟨k - 1, by omega⟩
   obtain rfl : i = l.length := by omega
   simp only [penduleref02_Cons.l0]
   rw [if_neg (by omega), List.drop_length, List.all_nil, Bool.true_and]
   by_cases h : (l.length : Int) ≥ a
   · rw [if_pos h, decide_eq_true (show a ≤ (l.length : Int) from h), Bool.true_and]
   · rw [if_neg h, decide_eq_false (show ¬ a ≤ (l.length : Int) from h), Bool.false_and]
 | succ d ih =>
   intro k i hi hd hk
   obtain ⟨k, rfl⟩ : ∃ m, k = m + 1 := ⟨k - 1, by omega⟩
   have hlt : i < l.length := by omega
   have hdr : l.drop i = l[i] :: l.drop (i + 1) := List.drop_eq_getElem_cons hlt
   have hrd : rdOf ByteArray.empty l (i : Int) = l[i] := by simp [rdOf, hlt]
   simp only [penduleref02_Cons.l0]
   rw [if_pos (by omega), if_pos (by omega), hrd, rcon_eq made _ k (by omega), hdr, List.all_cons]
   simp only [Option.bind_some]
   cases conB made l[i] with
   | true =>
     rw [if_pos rfl, wrap_add (by omega) (by omega), Bool.true_and]
     have := ih k (i + 1) (by omega) (by omega) (by omega)
     rw [show ((i : Nat) : Int) + 1 = ((i + 1 : Nat) : Int) by omega, this]
   | false => simp
theorem allB_all (l : List ByteArray) (a b : Int) (q : ByteArray → Bool) : (l.all q && (decide (a ≤ l.length) && decide ((l.length : Int) ≤ b))) = allB l a b q := by
 unfold allB
 have h : l.all q = !l.any (fun s => !q s) := by
   induction l with
   | nil => rfl
   | cons x r ih => simp only [List.all_cons, List.any_cons, ih, Bool.not_or, Bool.not_not]
 rw [h]
 cases decide (a ≤ (l.length : Int)) <;> cases decide ((l.length : Int) ≤ b) <;> cases (l.any (fun s => !q s)) <;> rfl
theorem rnames_eq (made : Bool) (l : List ByteArray) (a b : Int) (hl : l.length ≤ 9223372036854775807) : penduleref02_Names.f (l.length + 52) l a b made = some (allB l a b (nameB made)) := by
 have := names_tells made l a b hl l.length (l.length + 52) 0 (by omega) (by omega) (by omega)
 rw [List.drop_zero, allB_all] at this
 simpa [penduleref02_Names.f] using this
theorem rcons_eq (made : Bool) (l : List ByteArray) (a b : Int) (hl : l.length ≤ 9223372036854775807) : penduleref02_Cons.f (l.length + 52) l a b made = some (allB l a b (conB made)) := by
 have := cons_tells made l a b hl l.length (l.length + 52) 0 (by omega) (by omega) (by omega)
 rw [List.drop_zero, allB_all] at this
 simpa [penduleref02_Cons.f] using this
theorem rnames_calls (made : Bool) (A : Option Addr) (c : Nat) (l : List ByteArray) (a b : Int) (w : World) (hC : Kd.string.C w A l.length l) (hc : l.length ≤ c) :
   Calls Tryz.prog 43 #[.slice A l.length c, .int .i64 a, .int .i64 b, .bool made] w fun e w' => e = .returned (.bool (allB l a b (nameB made))) ∧ Below w.heap.size w w' :=
 penduleref02_Names.calls _ A c l a b made _ w hC hc (rnames_eq made l a b hC.2.1)
theorem rcons_calls (made : Bool) (A : Option Addr) (c : Nat) (l : List ByteArray) (a b : Int) (w : World) (hC : Kd.string.C w A l.length l) (hc : l.length ≤ c) :
   Calls Tryz.prog 42 #[.slice A l.length c, .int .i64 a, .int .i64 b, .bool made] w fun e w' => e = .returned (.bool (allB l a b (conB made))) ∧ Below w.heap.size w w' :=
 (penduleref02_Cons.calls _ A c l a b made _ w hC hc (rcons_eq made l a b hC.2.1)).mono (by rintro e w' ⟨rfl, ⟨k, rfl⟩⟩; exact ⟨rfl, pw_below_drewN (Below.refl _ _) k⟩)
theorem rname_calls (made : Bool) (s : ByteArray) (w : World) : Calls Tryz.prog 41 #[.string s, .bool made] w fun e w' => e = .returned (.bool (nameB made s)) ∧ Below w.heap.size w w' :=
 penduleref02_Name.calls 51 s made _ w (rname_eq made s 51 (by omega))
theorem rcon_calls (made : Bool) (s : ByteArray) (w : World) : Calls Tryz.prog 61 #[.string s, .bool made] w fun e w' => e = .returned (.bool (conB made s)) ∧ Below w.heap.size w w' :=
 (penduleref02_Constructor.calls 51 s made _ w (rcon_eq made s 51 (by omega))).mono (by rintro e w' ⟨rfl, ⟨k, rfl⟩⟩; exact ⟨rfl, pw_below_drewN (Below.refl _ _) k⟩)
theorem rhas_calls (A : Option Addr) (c : Nat) (l : List ByteArray) (s : ByteArray) (w : World) (hC : Kd.string.C w A l.length l) (hc : l.length ≤ c) (hl : l.length < 9223372036854775807) :
   Calls Tryz.prog 39 #[.slice A l.length c, .string s] w fun e w' => e = .returned (.bool (inB l s)) ∧ Below w.heap.size w w' :=
 (penduleref01_Has.calls (l.length + 1) A c l s (inB l s) w hC hc (by have := has_eq l s hl (l.length + 1) (by omega); unfold inB; exact this)).mono (by rintro e w' ⟨rfl, ⟨k, rfl⟩⟩; exact ⟨rfl, pw_below_drewN (Below.refl _ _) k⟩)
theorem rne_bool {a b : Int} (h : a ≠ b) : (a == b) = false := beq_eq_false_iff_ne.2 h
def bit2B (x : Int) : Bool := (x == 0) || (x == 1)
def nameV (made : Bool) (x : S42) : Bool := match (wantsOf made x.f0).name with | some q => q x.f1 | none => false
def numV (made : Bool) (x : S42) : Bool := if x.f0 = 1 then posB x.f2 else if x.f0 = 2 then bit2B x.f2 else false
def named (op : Int) : Bool := (op == 3) || ((op == 4) || ((op == 5) || ((op == 6) || ((op == 11) || ((op == 12) || ((op == 13) || (op == 14)))))))
def counted (op : Int) : Bool := (op == 1) || (op == 2)
def shapeB (made : Bool) (x : S42) : Bool :=
 okOp x.f0 && ((nameV made x == named x.f0) && ((named x.f0 || (x.f1.toList == ([] : List UInt8))) && ((numV made x == counted x.f0) && ((counted x.f0 || (x.f2 == 0)) && (decide ((wantsOf made x.f0).least ≤ x.f3.length) && (decide ((x.f3.length : Int) ≤ (wantsOf made x.f0).most) && (decide ((wantsOf made x.f0).kids ≤ x.f4.length) && decide ((x.f4.length : Int) ≤ (wantsOf made x.f0).many))))))))
def ShapeAt (made : Bool) (x : S42) (nm nb : Bool) (cl cm kl km : Int) : Prop :=
 okOp x.f0 = true ∧ nameV made x = nm ∧ numV made x = nb ∧ (wantsOf made x.f0).least = cl ∧ (wantsOf made x.f0).most = cm ∧ (wantsOf made x.f0).kids = kl ∧ (wantsOf made x.f0).many = km
theorem un_eq (s : ByteArray) : inB unOps s = ((s.toList == ([110, 111, 116] : List UInt8)) || (s.toList == ([45] : List UInt8))) := by
 have h1 : (⟨#[110, 111, 116]⟩ : ByteArray).toList = ([110, 111, 116] : List UInt8) := by rw [ByteArray.toList_eq]
 have h2 : (⟨#[45]⟩ : ByteArray).toList = ([45] : List UInt8) := by rw [ByteArray.toList_eq]
 have hd : ∀ a : ByteArray, decide (a = s) = (s.toList == a.toList) := fun a => by
   rw [Bool.eq_iff_iff]; simp only [decide_eq_true_eq, beq_iff_eq]
   exact ⟨fun e => by rw [e], fun e => (toList_inj e).symm⟩
 unfold inB unOps
 simp only [List.any_cons, List.any_nil, Bool.or_false, hd, h1, h2]
set_option maxHeartbeats 16000000 in
theorem rshape_calls (made : Bool) (x : S42) (w : World) (csx : List Value) (hK : k42.K w x csx) :
   Calls Tryz.prog 89 #[.agg csx.toArray, .bool made] w fun e w' => e = .returned (.bool (shapeB made x)) ∧ Below w.heap.size w w' := by
 obtain ⟨A3, c3, A4, c4, rfl, l3, g3, l4, g4⟩ := k42_open hK
 have L3 := Aside0.mk l3; have G3 := Aside0.mk g3; clear l3 g3
 have L4 := Aside0.mk l4; have G4 := Aside0.mk g4; clear l4 g4
 clear hK
 have HB := Aside0.mk (Below.refl w.heap.size w)
 have hu1 := Tryz.underlying42
 have hrn := fun W => rname_calls made x.f1 W
 have hrc := fun W => rcon_calls made x.f1 W
 have hrb := fun (W : World) (g : Nat) (hg : W.heap[g]? = some (.cells (binOps.map Value.string).toArray 9 (0, 0))) => rhas_calls (some ⟨g, 0, none⟩) 11 binOps x.f1 W (lit_strs binOps hg rfl (by decide)) (by decide) (by decide)
 go_enter Tryz.func89, Tryz.ntmps89
 go_upto_block 0 with ((with_reducible refine gate_dst (N := 2) rfl ?_); refine box_event ?hg (N := 2) ?hd (cs := #[.int .i64 x.f0, .string x.f1, .int .i64 x.f2, .slice A3 (x.f3).length c3, .slice A4 (x.f4).length c4]) (t := 42) ?hr ?_; (case hd => rfl); (case hg => rfl); (case hr => first | (go_simp; done) | (go_simp; rfl)); intro g2 hg_ w3 hbox hb; have B2 := Aside0.mk hbox; have LB2 := Aside0.mk ((by rw [hg_]; exact below_size HB.out) : w.heap.size ≤ g2); replace HB := Aside0.mk (below_step HB.out hb); clear hb hbox hg_; have c2_0 := (blk_cell B2.out 0).trans rfl; have c2_1 := (blk_cell B2.out 1).trans rfl; have c2_2 := (blk_cell B2.out 2).trans rfl; have c2_3 := (blk_cell B2.out 3).trans rfl; have c2_4 := (blk_cell B2.out 4).trans rfl)
 go_cut [5, 6, 7, 8, 9, 10] from 15 to 84 (fun s5 s6 s7 s8 s9 s10 wx => ∃ (nm nb : Bool) (cl cm kl km : Int), s5 = .bool nm ∧ s6 = .bool nb ∧ s7 = .int .i64 cl ∧ s8 = .int .i64 cm ∧ s9 = .int .i64 kl ∧ s10 = .int .i64 km ∧ Aside0 (ShapeAt made x nm nb cl cm kl km) ∧ Aside0 (Below w.heap.size w wx) ∧ Aside0 (wx.heap[g2]? = some (.cells #[.int .i64 x.f0, .string x.f1, .int .i64 x.f2, .slice A3 (x.f3).length c3, .slice A4 (x.f4).length c4] 42 (0, 0))))
 case first =>
   by_cases e : x.f0 = 1
   · skip
     have t1 : (x.f0 == 1) = true := by rw [e]; rfl
     have HNV := Aside0.mk (show nameV made x = false by unfold nameV; rw [e]; rfl)
     by_cases hp : x.f2 ≥ 0
     · skip
       have HUV := Aside0.mk (show numV made x = true by unfold numV posB; rw [if_pos e]; exact decide_eq_true hp)
       have HS := Aside0.mk (show ShapeAt made x false true 0 0 0 0 from ⟨by rw [e]; decide, HNV.out, HUV.out, by rw [e]; rfl, by rw [e]; rfl, by rw [e]; rfl, by rw [e]; rfl⟩)
       clear e hrn hrc hrb
       go_wp2_with fail
       go_meet
       case rel => exact ⟨_, _, _, _, _, _, rfl, rfl, rfl, rfl, rfl, rfl, HS, HB, B2⟩
     · skip
       have HUV := Aside0.mk (show numV made x = false by unfold numV posB; rw [if_pos e]; exact decide_eq_false hp)
       have HS := Aside0.mk (show ShapeAt made x false false 0 0 0 0 from ⟨by rw [e]; decide, HNV.out, HUV.out, by rw [e]; rfl, by rw [e]; rfl, by rw [e]; rfl, by rw [e]; rfl⟩)
       clear e hrn hrc hrb
       go_wp2_with fail
       go_meet
       case rel => exact ⟨_, _, _, _, _, _, rfl, rfl, rfl, rfl, rfl, rfl, HS, HB, B2⟩
   have n1 := e; clear e
   by_cases e : x.f0 = 2
   · skip
     have t2 : (x.f0 == 2) = true := by rw [e]; rfl
     have t1 : (x.f0 == 1) = false := rne_bool (by omega)
     have HNV := Aside0.mk (show nameV made x = false by unfold nameV; rw [e]; rfl)
     cases q0 : (x.f2 == 0) with
     | true =>
       have HUV := Aside0.mk (show numV made x = true by unfold numV bit2B; rw [if_neg (by omega), if_pos e, q0]; rfl)
       have HS := Aside0.mk (show ShapeAt made x false true 0 0 0 0 from ⟨by rw [e]; decide, HNV.out, HUV.out, by rw [e]; rfl, by rw [e]; rfl, by rw [e]; rfl, by rw [e]; rfl⟩)
       clear e hrn hrc hrb
       go_wp2_with fail
       go_meet
       case rel => exact ⟨_, _, _, _, _, _, rfl, rfl, rfl, rfl, rfl, rfl, HS, HB, B2⟩
     | false =>
       cases q1 : (x.f2 == 1) with
       | true =>
         have HUV := Aside0.mk (show numV made x = true by unfold numV bit2B; rw [if_neg (by omega), if_pos e, q0, q1]; rfl)
         have HS := Aside0.mk (show ShapeAt made x false true 0 0 0 0 from ⟨by rw [e]; decide, HNV.out, HUV.out, by rw [e]; rfl, by rw [e]; rfl, by rw [e]; rfl, by rw [e]; rfl⟩)
         clear e hrn hrc hrb
         go_wp2_with fail
         go_meet
         case rel => exact ⟨_, _, _, _, _, _, rfl, rfl, rfl, rfl, rfl, rfl, HS, HB, B2⟩
       | false =>
         have HUV := Aside0.mk (show numV made x = false by unfold numV bit2B; rw [if_neg (by omega), if_pos e, q0, q1]; rfl)
         have HS := Aside0.mk (show ShapeAt made x false false 0 0 0 0 from ⟨by rw [e]; decide, HNV.out, HUV.out, by rw [e]; rfl, by rw [e]; rfl, by rw [e]; rfl, by rw [e]; rfl⟩)
         clear e hrn hrc hrb
         go_wp2_with fail
         go_meet
         case rel => exact ⟨_, _, _, _, _, _, rfl, rfl, rfl, rfl, rfl, rfl, HS, HB, B2⟩
   have n2 := e; clear e
   by_cases e : x.f0 = 3
   · skip
     have t3 : (x.f0 == 3) = true := by rw [e]; rfl
     have t1 : (x.f0 == 1) = false := rne_bool (by omega)
     have t2 : (x.f0 == 2) = false := rne_bool (by omega)
     have HNV := Aside0.mk (show nameV made x = (conB made x.f1) by unfold nameV; rw [e]; rfl)
     have HUV := Aside0.mk (show numV made x = false by unfold numV; rw [if_neg (by omega), if_neg (by omega)])
     have HS := Aside0.mk (show ShapeAt made x (conB made x.f1) false 0 0 0 0 from ⟨by rw [e]; decide, HNV.out, HUV.out, by rw [e]; rfl, by rw [e]; rfl, by rw [e]; rfl, by rw [e]; rfl⟩)
     skip
     clear e hrb
     go_wp2_with fail
     refine (hrc _).mono ?_
     rintro e_ w5 ⟨rfl, hb⟩
     replace B2 := Aside0.mk (below_blk B2.out hb)
     replace HB := Aside0.mk (below_step HB.out hb)
     clear hb hrn hrc c2_0 c2_1 c2_2 c2_3 c2_4
     go_wp2_with fail
     go_meet
     case rel => exact ⟨_, _, _, _, _, _, rfl, rfl, rfl, rfl, rfl, rfl, HS, HB, B2⟩
   have n3 := e; clear e
   by_cases e : x.f0 = 4
   · skip
     have t4 : (x.f0 == 4) = true := by rw [e]; rfl
     have t1 : (x.f0 == 1) = false := rne_bool (by omega)
     have t2 : (x.f0 == 2) = false := rne_bool (by omega)
     have t3 : (x.f0 == 3) = false := rne_bool (by omega)
     have HNV := Aside0.mk (show nameV made x = (nameB made x.f1) by unfold nameV; rw [e]; rfl)
     have HUV := Aside0.mk (show numV made x = false by unfold numV; rw [if_neg (by omega), if_neg (by omega)])
     have HS := Aside0.mk (show ShapeAt made x (nameB made x.f1) false 0 0 0 0 from ⟨by rw [e]; decide, HNV.out, HUV.out, by rw [e]; rfl, by rw [e]; rfl, by rw [e]; rfl, by rw [e]; rfl⟩)
     skip
     clear e hrb
     go_wp2_with fail
     refine (hrn _).mono ?_
     rintro e_ w5 ⟨rfl, hb⟩
     replace B2 := Aside0.mk (below_blk B2.out hb)
     replace HB := Aside0.mk (below_step HB.out hb)
     clear hb hrn hrc c2_0 c2_1 c2_2 c2_3 c2_4
     go_wp2_with fail
     go_meet
     case rel => exact ⟨_, _, _, _, _, _, rfl, rfl, rfl, rfl, rfl, rfl, HS, HB, B2⟩
   have n4 := e; clear e
   by_cases e : x.f0 = 5
   · skip
     have t5 : (x.f0 == 5) = true := by rw [e]; rfl
     have t1 : (x.f0 == 1) = false := rne_bool (by omega)
     have t2 : (x.f0 == 2) = false := rne_bool (by omega)
     have t3 : (x.f0 == 3) = false := rne_bool (by omega)
     have t4 : (x.f0 == 4) = false := rne_bool (by omega)
     have HUV := Aside0.mk (show numV made x = false by unfold numV; rw [if_neg (by omega), if_neg (by omega)])
     have HNV := Aside0.mk (show nameV made x = ((x.f1.toList == ([110, 111, 116] : List UInt8)) || (x.f1.toList == ([45] : List UInt8))) by unfold nameV; rw [e]; exact un_eq x.f1)
     cases q0 : (x.f1.toList == ([110, 111, 116] : List UInt8)) with
     | true =>
       rw [q0] at HNV
       replace HNV := Aside0.mk (show nameV made x = true from HNV.out)
       have HS := Aside0.mk (show ShapeAt made x true false 0 0 1 1 from ⟨by rw [e]; decide, HNV.out, HUV.out, by rw [e]; rfl, by rw [e]; rfl, by rw [e]; rfl, by rw [e]; rfl⟩)
       clear e hrn hrc hrb
       go_wp2_with fail
       go_meet
       case rel => exact ⟨_, _, _, _, _, _, rfl, rfl, rfl, rfl, rfl, rfl, HS, HB, B2⟩
     | false =>
       cases q1 : (x.f1.toList == ([45] : List UInt8)) with
       | true =>
         rw [q0, q1] at HNV
         replace HNV := Aside0.mk (show nameV made x = true from HNV.out)
         have HS := Aside0.mk (show ShapeAt made x true false 0 0 1 1 from ⟨by rw [e]; decide, HNV.out, HUV.out, by rw [e]; rfl, by rw [e]; rfl, by rw [e]; rfl, by rw [e]; rfl⟩)
         clear e hrn hrc hrb
         go_wp2_with fail
         go_meet
         case rel => exact ⟨_, _, _, _, _, _, rfl, rfl, rfl, rfl, rfl, rfl, HS, HB, B2⟩
       | false =>
         rw [q0, q1] at HNV
         replace HNV := Aside0.mk (show nameV made x = false from HNV.out)
         have HS := Aside0.mk (show ShapeAt made x false false 0 0 1 1 from ⟨by rw [e]; decide, HNV.out, HUV.out, by rw [e]; rfl, by rw [e]; rfl, by rw [e]; rfl, by rw [e]; rfl⟩)
         clear e hrn hrc hrb
         go_wp2_with fail
         go_meet
         case rel => exact ⟨_, _, _, _, _, _, rfl, rfl, rfl, rfl, rfl, rfl, HS, HB, B2⟩
   have n5 := e; clear e
   by_cases e : x.f0 = 6
   · skip
     have t6 : (x.f0 == 6) = true := by rw [e]; rfl
     have t1 : (x.f0 == 1) = false := rne_bool (by omega)
     have t2 : (x.f0 == 2) = false := rne_bool (by omega)
     have t3 : (x.f0 == 3) = false := rne_bool (by omega)
     have t4 : (x.f0 == 4) = false := rne_bool (by omega)
     have t5 : (x.f0 == 5) = false := rne_bool (by omega)
     have HNV := Aside0.mk (show nameV made x = inB binOps x.f1 by unfold nameV; rw [e]; rfl)
     have HUV := Aside0.mk (show numV made x = false by unfold numV; rw [if_neg (by omega), if_neg (by omega)])
     have HS := Aside0.mk (show ShapeAt made x (inB binOps x.f1) false 0 0 2 2 from ⟨by rw [e]; decide, HNV.out, HUV.out, by rw [e]; rfl, by rw [e]; rfl, by rw [e]; rfl, by rw [e]; rfl⟩)
     clear e hrn hrc
     have d2 := fun o => (blk_cell (blk_alloc B2.out o) 1).trans rfl
     go_wp2_with fail
     refine (hrb (w3.alloc _) w3.heap.size (blk_new _ _)).mono ?_
     rintro e_ w5 ⟨rfl, hb⟩
     replace B2 := Aside0.mk (below_blk (blk_alloc B2.out _) hb)
     replace HB := Aside0.mk (below_step (below_alloc HB.out _) hb)
     clear hb hrb d2 c2_0 c2_1 c2_2 c2_3 c2_4
     go_wp2_with fail
     go_meet
     case rel => exact ⟨_, _, _, _, _, _, rfl, rfl, rfl, rfl, rfl, rfl, HS, HB, B2⟩
   have n6 := e; clear e
   by_cases e : x.f0 = 7
   · skip
     have t7 : (x.f0 == 7) = true := by rw [e]; rfl
     have t1 : (x.f0 == 1) = false := rne_bool (by omega)
     have t2 : (x.f0 == 2) = false := rne_bool (by omega)
     have t3 : (x.f0 == 3) = false := rne_bool (by omega)
     have t4 : (x.f0 == 4) = false := rne_bool (by omega)
     have t5 : (x.f0 == 5) = false := rne_bool (by omega)
     have t6 : (x.f0 == 6) = false := rne_bool (by omega)
     have HNV := Aside0.mk (show nameV made x = false by unfold nameV; rw [e]; rfl)
     have HUV := Aside0.mk (show numV made x = false by unfold numV; rw [if_neg (by omega), if_neg (by omega)])
     have HS := Aside0.mk (show ShapeAt made x false false 0 0 3 3 from ⟨by rw [e]; decide, HNV.out, HUV.out, by rw [e]; rfl, by rw [e]; rfl, by rw [e]; rfl, by rw [e]; rfl⟩)
     clear e hrn hrc hrb
     go_wp2_with fail
     go_meet
     case rel => exact ⟨_, _, _, _, _, _, rfl, rfl, rfl, rfl, rfl, rfl, HS, HB, B2⟩
   have n7 := e; clear e
   by_cases e : x.f0 = 8
   · skip
     have t8 : (x.f0 == 8) = true := by rw [e]; rfl
     have t1 : (x.f0 == 1) = false := rne_bool (by omega)
     have t2 : (x.f0 == 2) = false := rne_bool (by omega)
     have t3 : (x.f0 == 3) = false := rne_bool (by omega)
     have t4 : (x.f0 == 4) = false := rne_bool (by omega)
     have t5 : (x.f0 == 5) = false := rne_bool (by omega)
     have t6 : (x.f0 == 6) = false := rne_bool (by omega)
     have t7 : (x.f0 == 7) = false := rne_bool (by omega)
     have HNV := Aside0.mk (show nameV made x = false by unfold nameV; rw [e]; rfl)
     have HUV := Aside0.mk (show numV made x = false by unfold numV; rw [if_neg (by omega), if_neg (by omega)])
     have HS := Aside0.mk (show ShapeAt made x false false 0 0 2 2 from ⟨by rw [e]; decide, HNV.out, HUV.out, by rw [e]; rfl, by rw [e]; rfl, by rw [e]; rfl, by rw [e]; rfl⟩)
     clear e hrn hrc hrb
     go_wp2_with fail
     go_meet
     case rel => exact ⟨_, _, _, _, _, _, rfl, rfl, rfl, rfl, rfl, rfl, HS, HB, B2⟩
   have n8 := e; clear e
   by_cases e : x.f0 = 10
   · skip
     have t10 : (x.f0 == 10) = true := by rw [e]; rfl
     have t1 : (x.f0 == 1) = false := rne_bool (by omega)
     have t2 : (x.f0 == 2) = false := rne_bool (by omega)
     have t3 : (x.f0 == 3) = false := rne_bool (by omega)
     have t4 : (x.f0 == 4) = false := rne_bool (by omega)
     have t5 : (x.f0 == 5) = false := rne_bool (by omega)
     have t6 : (x.f0 == 6) = false := rne_bool (by omega)
     have t7 : (x.f0 == 7) = false := rne_bool (by omega)
     have t8 : (x.f0 == 8) = false := rne_bool (by omega)
     have HNV := Aside0.mk (show nameV made x = false by unfold nameV; rw [e]; rfl)
     have HUV := Aside0.mk (show numV made x = false by unfold numV; rw [if_neg (by omega), if_neg (by omega)])
     have HS := Aside0.mk (show ShapeAt made x false false 0 0 2 2 from ⟨by rw [e]; decide, HNV.out, HUV.out, by rw [e]; rfl, by rw [e]; rfl, by rw [e]; rfl, by rw [e]; rfl⟩)
     clear e hrn hrc hrb
     go_wp2_with fail
     go_meet
     case rel => exact ⟨_, _, _, _, _, _, rfl, rfl, rfl, rfl, rfl, rfl, HS, HB, B2⟩
   have n10 := e; clear e
   by_cases e : x.f0 = 15
   · skip
     have t15 : (x.f0 == 15) = true := by rw [e]; rfl
     have t1 : (x.f0 == 1) = false := rne_bool (by omega)
     have t2 : (x.f0 == 2) = false := rne_bool (by omega)
     have t3 : (x.f0 == 3) = false := rne_bool (by omega)
     have t4 : (x.f0 == 4) = false := rne_bool (by omega)
     have t5 : (x.f0 == 5) = false := rne_bool (by omega)
     have t6 : (x.f0 == 6) = false := rne_bool (by omega)
     have t7 : (x.f0 == 7) = false := rne_bool (by omega)
     have t8 : (x.f0 == 8) = false := rne_bool (by omega)
     have t10 : (x.f0 == 10) = false := rne_bool (by omega)
     have HNV := Aside0.mk (show nameV made x = false by unfold nameV; rw [e]; rfl)
     have HUV := Aside0.mk (show numV made x = false by unfold numV; rw [if_neg (by omega), if_neg (by omega)])
     have HS := Aside0.mk (show ShapeAt made x false false 0 0 2 2 from ⟨by rw [e]; decide, HNV.out, HUV.out, by rw [e]; rfl, by rw [e]; rfl, by rw [e]; rfl, by rw [e]; rfl⟩)
     clear e hrn hrc hrb
     go_wp2_with fail
     go_meet
     case rel => exact ⟨_, _, _, _, _, _, rfl, rfl, rfl, rfl, rfl, rfl, HS, HB, B2⟩
   have n15 := e; clear e
   by_cases e : x.f0 = 9
   · skip
     have t9 : (x.f0 == 9) = true := by rw [e]; rfl
     have t1 : (x.f0 == 1) = false := rne_bool (by omega)
     have t2 : (x.f0 == 2) = false := rne_bool (by omega)
     have t3 : (x.f0 == 3) = false := rne_bool (by omega)
     have t4 : (x.f0 == 4) = false := rne_bool (by omega)
     have t5 : (x.f0 == 5) = false := rne_bool (by omega)
     have t6 : (x.f0 == 6) = false := rne_bool (by omega)
     have t7 : (x.f0 == 7) = false := rne_bool (by omega)
     have t8 : (x.f0 == 8) = false := rne_bool (by omega)
     have t10 : (x.f0 == 10) = false := rne_bool (by omega)
     have t15 : (x.f0 == 15) = false := rne_bool (by omega)
     have HNV := Aside0.mk (show nameV made x = false by unfold nameV; rw [e]; rfl)
     have HUV := Aside0.mk (show numV made x = false by unfold numV; rw [if_neg (by omega), if_neg (by omega)])
     have HS := Aside0.mk (show ShapeAt made x false false 0 0 1 1 from ⟨by rw [e]; decide, HNV.out, HUV.out, by rw [e]; rfl, by rw [e]; rfl, by rw [e]; rfl, by rw [e]; rfl⟩)
     clear e hrn hrc hrb
     go_wp2_with fail
     go_meet
     case rel => exact ⟨_, _, _, _, _, _, rfl, rfl, rfl, rfl, rfl, rfl, HS, HB, B2⟩
   have n9 := e; clear e
   by_cases e : x.f0 = 11
   · skip
     have t11 : (x.f0 == 11) = true := by rw [e]; rfl
     have t1 : (x.f0 == 1) = false := rne_bool (by omega)
     have t2 : (x.f0 == 2) = false := rne_bool (by omega)
     have t3 : (x.f0 == 3) = false := rne_bool (by omega)
     have t4 : (x.f0 == 4) = false := rne_bool (by omega)
     have t5 : (x.f0 == 5) = false := rne_bool (by omega)
     have t6 : (x.f0 == 6) = false := rne_bool (by omega)
     have t7 : (x.f0 == 7) = false := rne_bool (by omega)
     have t8 : (x.f0 == 8) = false := rne_bool (by omega)
     have t10 : (x.f0 == 10) = false := rne_bool (by omega)
     have t15 : (x.f0 == 15) = false := rne_bool (by omega)
     have t9 : (x.f0 == 9) = false := rne_bool (by omega)
     have HNV := Aside0.mk (show nameV made x = (nameB made x.f1) by unfold nameV; rw [e]; rfl)
     have HUV := Aside0.mk (show numV made x = false by unfold numV; rw [if_neg (by omega), if_neg (by omega)])
     have HS := Aside0.mk (show ShapeAt made x (nameB made x.f1) false 1 1 1 1 from ⟨by rw [e]; decide, HNV.out, HUV.out, by rw [e]; rfl, by rw [e]; rfl, by rw [e]; rfl, by rw [e]; rfl⟩)
     skip
     clear e hrb
     go_wp2_with fail
     refine (hrn _).mono ?_
     rintro e_ w5 ⟨rfl, hb⟩
     replace B2 := Aside0.mk (below_blk B2.out hb)
     replace HB := Aside0.mk (below_step HB.out hb)
     clear hb hrn hrc c2_0 c2_1 c2_2 c2_3 c2_4
     go_wp2_with fail
     go_meet
     case rel => exact ⟨_, _, _, _, _, _, rfl, rfl, rfl, rfl, rfl, rfl, HS, HB, B2⟩
   have n11 := e; clear e
   by_cases e : x.f0 = 12
   · skip
     have t12 : (x.f0 == 12) = true := by rw [e]; rfl
     have t1 : (x.f0 == 1) = false := rne_bool (by omega)
     have t2 : (x.f0 == 2) = false := rne_bool (by omega)
     have t3 : (x.f0 == 3) = false := rne_bool (by omega)
     have t4 : (x.f0 == 4) = false := rne_bool (by omega)
     have t5 : (x.f0 == 5) = false := rne_bool (by omega)
     have t6 : (x.f0 == 6) = false := rne_bool (by omega)
     have t7 : (x.f0 == 7) = false := rne_bool (by omega)
     have t8 : (x.f0 == 8) = false := rne_bool (by omega)
     have t10 : (x.f0 == 10) = false := rne_bool (by omega)
     have t15 : (x.f0 == 15) = false := rne_bool (by omega)
     have t9 : (x.f0 == 9) = false := rne_bool (by omega)
     have t11 : (x.f0 == 11) = false := rne_bool (by omega)
     have HNV := Aside0.mk (show nameV made x = (nameB made x.f1) by unfold nameV; rw [e]; rfl)
     have HUV := Aside0.mk (show numV made x = false by unfold numV; rw [if_neg (by omega), if_neg (by omega)])
     have HS := Aside0.mk (show ShapeAt made x (nameB made x.f1) false 1 8 1 8 from ⟨by rw [e]; decide, HNV.out, HUV.out, by rw [e]; rfl, by rw [e]; rfl, by rw [e]; rfl, by rw [e]; rfl⟩)
     skip
     clear e hrb
     go_wp2_with fail
     refine (hrn _).mono ?_
     rintro e_ w5 ⟨rfl, hb⟩
     replace B2 := Aside0.mk (below_blk B2.out hb)
     replace HB := Aside0.mk (below_step HB.out hb)
     clear hb hrn hrc c2_0 c2_1 c2_2 c2_3 c2_4
     go_wp2_with fail
     go_meet
     case rel => exact ⟨_, _, _, _, _, _, rfl, rfl, rfl, rfl, rfl, rfl, HS, HB, B2⟩
   have n12 := e; clear e
   by_cases e : x.f0 = 13
   · skip
     have t13 : (x.f0 == 13) = true := by rw [e]; rfl
     have t1 : (x.f0 == 1) = false := rne_bool (by omega)
     have t2 : (x.f0 == 2) = false := rne_bool (by omega)
     have t3 : (x.f0 == 3) = false := rne_bool (by omega)
     have t4 : (x.f0 == 4) = false := rne_bool (by omega)
     have t5 : (x.f0 == 5) = false := rne_bool (by omega)
     have t6 : (x.f0 == 6) = false := rne_bool (by omega)
     have t7 : (x.f0 == 7) = false := rne_bool (by omega)
     have t8 : (x.f0 == 8) = false := rne_bool (by omega)
     have t10 : (x.f0 == 10) = false := rne_bool (by omega)
     have t15 : (x.f0 == 15) = false := rne_bool (by omega)
     have t9 : (x.f0 == 9) = false := rne_bool (by omega)
     have t11 : (x.f0 == 11) = false := rne_bool (by omega)
     have t12 : (x.f0 == 12) = false := rne_bool (by omega)
     have HNV := Aside0.mk (show nameV made x = (nameB made x.f1) by unfold nameV; rw [e]; rfl)
     have HUV := Aside0.mk (show numV made x = false by unfold numV; rw [if_neg (by omega), if_neg (by omega)])
     have HS := Aside0.mk (show ShapeAt made x (nameB made x.f1) false 1 8 1 8 from ⟨by rw [e]; decide, HNV.out, HUV.out, by rw [e]; rfl, by rw [e]; rfl, by rw [e]; rfl, by rw [e]; rfl⟩)
     skip
     clear e hrb
     go_wp2_with fail
     refine (hrn _).mono ?_
     rintro e_ w5 ⟨rfl, hb⟩
     replace B2 := Aside0.mk (below_blk B2.out hb)
     replace HB := Aside0.mk (below_step HB.out hb)
     clear hb hrn hrc c2_0 c2_1 c2_2 c2_3 c2_4
     go_wp2_with fail
     go_meet
     case rel => exact ⟨_, _, _, _, _, _, rfl, rfl, rfl, rfl, rfl, rfl, HS, HB, B2⟩
   have n13 := e; clear e
   by_cases e : x.f0 = 14
   · skip
     have t14 : (x.f0 == 14) = true := by rw [e]; rfl
     have t1 : (x.f0 == 1) = false := rne_bool (by omega)
     have t2 : (x.f0 == 2) = false := rne_bool (by omega)
     have t3 : (x.f0 == 3) = false := rne_bool (by omega)
     have t4 : (x.f0 == 4) = false := rne_bool (by omega)
     have t5 : (x.f0 == 5) = false := rne_bool (by omega)
     have t6 : (x.f0 == 6) = false := rne_bool (by omega)
     have t7 : (x.f0 == 7) = false := rne_bool (by omega)
     have t8 : (x.f0 == 8) = false := rne_bool (by omega)
     have t10 : (x.f0 == 10) = false := rne_bool (by omega)
     have t15 : (x.f0 == 15) = false := rne_bool (by omega)
     have t9 : (x.f0 == 9) = false := rne_bool (by omega)
     have t11 : (x.f0 == 11) = false := rne_bool (by omega)
     have t12 : (x.f0 == 12) = false := rne_bool (by omega)
     have t13 : (x.f0 == 13) = false := rne_bool (by omega)
     have HNV := Aside0.mk (show nameV made x = (nameB made x.f1) by unfold nameV; rw [e]; rfl)
     have HUV := Aside0.mk (show numV made x = false by unfold numV; rw [if_neg (by omega), if_neg (by omega)])
     have HS := Aside0.mk (show ShapeAt made x (nameB made x.f1) false 0 6 1 6 from ⟨by rw [e]; decide, HNV.out, HUV.out, by rw [e]; rfl, by rw [e]; rfl, by rw [e]; rfl, by rw [e]; rfl⟩)
     skip
     clear e hrb
     go_wp2_with fail
     refine (hrn _).mono ?_
     rintro e_ w5 ⟨rfl, hb⟩
     replace B2 := Aside0.mk (below_blk B2.out hb)
     replace HB := Aside0.mk (below_step HB.out hb)
     clear hb hrn hrc c2_0 c2_1 c2_2 c2_3 c2_4
     go_wp2_with fail
     go_meet
     case rel => exact ⟨_, _, _, _, _, _, rfl, rfl, rfl, rfl, rfl, rfl, HS, HB, B2⟩
   have n14 := e; clear e
   have t1 : (x.f0 == 1) = false := rne_bool n1
   have t2 : (x.f0 == 2) = false := rne_bool n2
   have t3 : (x.f0 == 3) = false := rne_bool n3
   have t4 : (x.f0 == 4) = false := rne_bool n4
   have t5 : (x.f0 == 5) = false := rne_bool n5
   have t6 : (x.f0 == 6) = false := rne_bool n6
   have t7 : (x.f0 == 7) = false := rne_bool n7
   have t8 : (x.f0 == 8) = false := rne_bool n8
   have t10 : (x.f0 == 10) = false := rne_bool n10
   have t15 : (x.f0 == 15) = false := rne_bool n15
   have t9 : (x.f0 == 9) = false := rne_bool n9
   have t11 : (x.f0 == 11) = false := rne_bool n11
   have t12 : (x.f0 == 12) = false := rne_bool n12
   have t13 : (x.f0 == 13) = false := rne_bool n13
   have t14 : (x.f0 == 14) = false := rne_bool n14
   have HR := Aside0.mk (show shapeB made x = false by unfold shapeB; rw [show okOp x.f0 = false by unfold okOp; rw [Bool.and_eq_false_iff]; simp only [decide_eq_false_iff_not]; omega]; rfl)
   clear n1 n2 n3 n4 n5 n6 n7 n8 n10 n15 n9 n11 n12 n13 n14 hrn hrc hrb
   go_wp2_with fail
   go_ret
   exact ⟨by rw [HR.out]; rfl, HB.out⟩
 case rest =>
   clear HB B2 hrn hrc hrb c2_0 c2_1 c2_2 c2_3 c2_4
   obtain ⟨nm, nb, cl, cm, kl, km, rfl, rfl, rfl, rfl, rfl, rfl, HS, HB, B2⟩ := hcut
   have c2_0 := (blk_cell B2.out 0).trans rfl
   have c2_1 := (blk_cell B2.out 1).trans rfl
   have c2_2 := (blk_cell B2.out 2).trans rfl
   have c2_3 := (blk_cell B2.out 3).trans rfl
   have c2_4 := (blk_cell B2.out 4).trans rfl
   go_upto_region 37 with (fail)
   go_cut [11] from 85 to 122 (fun s_ wx => ∃ q : Bool, s_ = .bool q ∧ Aside0 (named x.f0 = q) ∧ Aside0 (Below w.heap.size w wx) ∧ Aside0 (wx.heap[g2]? = some (.cells #[.int .i64 x.f0, .string x.f1, .int .i64 x.f2, .slice A3 (x.f3).length c3, .slice A4 (x.f4).length c4] 42 (0, 0))))
   case first =>
     by_cases e : x.f0 = 3
     · have t3 : (x.f0 == 3) = true := by rw [e]; rfl
       have HQ := Aside0.mk (show named x.f0 = true by rw [e]; rfl)
       clear e
       go_wp2_with fail
       go_meet
       case rel => exact ⟨_, rfl, HQ, HB, B2⟩
     have n3 := e; clear e
     by_cases e : x.f0 = 4
     · have t4 : (x.f0 == 4) = true := by rw [e]; rfl
       have t3 : (x.f0 == 3) = false := rne_bool (by omega)
       have HQ := Aside0.mk (show named x.f0 = true by rw [e]; rfl)
       clear e
       go_wp2_with fail
       go_meet
       case rel => exact ⟨_, rfl, HQ, HB, B2⟩
     have n4 := e; clear e
     by_cases e : x.f0 = 5
     · have t5 : (x.f0 == 5) = true := by rw [e]; rfl
       have t3 : (x.f0 == 3) = false := rne_bool (by omega)
       have t4 : (x.f0 == 4) = false := rne_bool (by omega)
       have HQ := Aside0.mk (show named x.f0 = true by rw [e]; rfl)
       clear e
       go_wp2_with fail
       go_meet
       case rel => exact ⟨_, rfl, HQ, HB, B2⟩
     have n5 := e; clear e
     by_cases e : x.f0 = 6
     · have t6 : (x.f0 == 6) = true := by rw [e]; rfl
       have t3 : (x.f0 == 3) = false := rne_bool (by omega)
       have t4 : (x.f0 == 4) = false := rne_bool (by omega)
       have t5 : (x.f0 == 5) = false := rne_bool (by omega)
       have HQ := Aside0.mk (show named x.f0 = true by rw [e]; rfl)
       clear e
       go_wp2_with fail
       go_meet
       case rel => exact ⟨_, rfl, HQ, HB, B2⟩
     have n6 := e; clear e
     by_cases e : x.f0 = 11
     · have t11 : (x.f0 == 11) = true := by rw [e]; rfl
       have t3 : (x.f0 == 3) = false := rne_bool (by omega)
       have t4 : (x.f0 == 4) = false := rne_bool (by omega)
       have t5 : (x.f0 == 5) = false := rne_bool (by omega)
       have t6 : (x.f0 == 6) = false := rne_bool (by omega)
       have HQ := Aside0.mk (show named x.f0 = true by rw [e]; rfl)
       clear e
       go_wp2_with fail
       go_meet
       case rel => exact ⟨_, rfl, HQ, HB, B2⟩
     have n11 := e; clear e
     by_cases e : x.f0 = 12
     · have t12 : (x.f0 == 12) = true := by rw [e]; rfl
       have t3 : (x.f0 == 3) = false := rne_bool (by omega)
       have t4 : (x.f0 == 4) = false := rne_bool (by omega)
       have t5 : (x.f0 == 5) = false := rne_bool (by omega)
       have t6 : (x.f0 == 6) = false := rne_bool (by omega)
       have t11 : (x.f0 == 11) = false := rne_bool (by omega)
       have HQ := Aside0.mk (show named x.f0 = true by rw [e]; rfl)
       clear e
       go_wp2_with fail
       go_meet
       case rel => exact ⟨_, rfl, HQ, HB, B2⟩
     have n12 := e; clear e
     by_cases e : x.f0 = 13
     · have t13 : (x.f0 == 13) = true := by rw [e]; rfl
       have t3 : (x.f0 == 3) = false := rne_bool (by omega)
       have t4 : (x.f0 == 4) = false := rne_bool (by omega)
       have t5 : (x.f0 == 5) = false := rne_bool (by omega)
       have t6 : (x.f0 == 6) = false := rne_bool (by omega)
       have t11 : (x.f0 == 11) = false := rne_bool (by omega)
       have t12 : (x.f0 == 12) = false := rne_bool (by omega)
       have HQ := Aside0.mk (show named x.f0 = true by rw [e]; rfl)
       clear e
       go_wp2_with fail
       go_meet
       case rel => exact ⟨_, rfl, HQ, HB, B2⟩
     have n13 := e; clear e
     by_cases e : x.f0 = 14
     · have t14 : (x.f0 == 14) = true := by rw [e]; rfl
       have t3 : (x.f0 == 3) = false := rne_bool (by omega)
       have t4 : (x.f0 == 4) = false := rne_bool (by omega)
       have t5 : (x.f0 == 5) = false := rne_bool (by omega)
       have t6 : (x.f0 == 6) = false := rne_bool (by omega)
       have t11 : (x.f0 == 11) = false := rne_bool (by omega)
       have t12 : (x.f0 == 12) = false := rne_bool (by omega)
       have t13 : (x.f0 == 13) = false := rne_bool (by omega)
       have HQ := Aside0.mk (show named x.f0 = true by rw [e]; rfl)
       clear e
       go_wp2_with fail
       go_meet
       case rel => exact ⟨_, rfl, HQ, HB, B2⟩
     have n14 := e; clear e
     have t3 : (x.f0 == 3) = false := rne_bool n3
     have t4 : (x.f0 == 4) = false := rne_bool n4
     have t5 : (x.f0 == 5) = false := rne_bool n5
     have t6 : (x.f0 == 6) = false := rne_bool n6
     have t11 : (x.f0 == 11) = false := rne_bool n11
     have t12 : (x.f0 == 12) = false := rne_bool n12
     have t13 : (x.f0 == 13) = false := rne_bool n13
     have t14 : (x.f0 == 14) = false := rne_bool n14
     have HQ := Aside0.mk (show named x.f0 = false by unfold named; rw [t3, t4, t5, t6, t11, t12, t13, t14]; rfl)
     clear n3 n4 n5 n6 n11 n12 n13 n14
     go_wp2_with fail
     go_meet
     case rel => exact ⟨_, rfl, HQ, HB, B2⟩
   case rest =>
     clear HB B2 c2_0 c2_1 c2_2 c2_3 c2_4
     obtain ⟨nd, rfl, HND, HB, B2⟩ := hcut
     have c2_0 := (blk_cell B2.out 0).trans rfl
     have c2_1 := (blk_cell B2.out 1).trans rfl
     have c2_2 := (blk_cell B2.out 2).trans rfl
     have c2_3 := (blk_cell B2.out 3).trans rfl
     have c2_4 := (blk_cell B2.out 4).trans rfl
     go_upto_region 38 with (fail)
     go_cut [12] from 123 to 130 (fun s_ wx => ∃ q : Bool, s_ = .bool q ∧ Aside0 (counted x.f0 = q) ∧ Aside0 (Below w.heap.size w wx) ∧ Aside0 (wx.heap[g2]? = some (.cells #[.int .i64 x.f0, .string x.f1, .int .i64 x.f2, .slice A3 (x.f3).length c3, .slice A4 (x.f4).length c4] 42 (0, 0))))
     case first =>
       by_cases e : x.f0 = 1
       · have t1 : (x.f0 == 1) = true := by rw [e]; rfl
         have HQ := Aside0.mk (show counted x.f0 = true by rw [e]; rfl)
         clear e
         go_wp2_with fail
         go_meet
         case rel => exact ⟨_, rfl, HQ, HB, B2⟩
       have n1 := e; clear e
       by_cases e : x.f0 = 2
       · have t2 : (x.f0 == 2) = true := by rw [e]; rfl
         have t1 : (x.f0 == 1) = false := rne_bool (by omega)
         have HQ := Aside0.mk (show counted x.f0 = true by rw [e]; rfl)
         clear e
         go_wp2_with fail
         go_meet
         case rel => exact ⟨_, rfl, HQ, HB, B2⟩
       have n2 := e; clear e
       have t1 : (x.f0 == 1) = false := rne_bool n1
       have t2 : (x.f0 == 2) = false := rne_bool n2
       have HQ := Aside0.mk (show counted x.f0 = false by unfold counted; rw [t1, t2]; rfl)
       clear n1 n2
       go_wp2_with fail
       go_meet
       case rel => exact ⟨_, rfl, HQ, HB, B2⟩
     case rest =>
       clear HB B2 c2_0 c2_1 c2_2 c2_3 c2_4
       obtain ⟨ct, rfl, HCT, HB, B2⟩ := hcut
       have c2_0 := (blk_cell B2.out 0).trans rfl
       have c2_1 := (blk_cell B2.out 1).trans rfl
       have c2_2 := (blk_cell B2.out 2).trans rfl
       have c2_3 := (blk_cell B2.out 3).trans rfl
       have c2_4 := (blk_cell B2.out 4).trans rfl
       have HSH := Aside0.mk (show shapeB made x = ((nm == nd) && ((nd || (x.f1.toList == ([] : List UInt8))) && ((nb == ct) && ((ct || (x.f2 == 0)) && (decide (cl ≤ (x.f3.length : Int)) && (decide ((x.f3.length : Int) ≤ cm) && (decide (kl ≤ (x.f4.length : Int)) && decide ((x.f4.length : Int) ≤ km)))))))) by obtain ⟨s1, s2, s3, s4, s5, s6, s7⟩ := HS.out; unfold shapeB; rw [s1, s2, s3, s4, s5, s6, s7, HND.out, HCT.out]; rfl)
       clear HS HND HCT
       cases nm with
       | true =>
         cases nd with
         | false =>
           go_wp2_with fail
           go_ret
           exact ⟨by rw [HSH.out]; rfl, HB.out⟩
         | true =>
           cases nb with
           | true =>
             cases ct with
             | false =>
               go_wp2_with fail
               go_ret
               exact ⟨by rw [HSH.out]; rfl, HB.out⟩
             | true =>
               by_cases d1 : ¬ (cl ≤ (x.f3.length : Int))
               · rw [decide_eq_false d1] at HSH
                 go_wp2_with fail
                 go_ret
                 exact ⟨by rw [HSH.out]; rfl, HB.out⟩
               replace d1 := Decidable.not_not.1 d1
               rw [decide_eq_true d1] at HSH
               by_cases d2 : ¬ ((x.f3.length : Int) ≤ cm)
               · rw [decide_eq_false d2] at HSH
                 go_wp2_with fail
                 go_ret
                 exact ⟨by rw [HSH.out]; rfl, HB.out⟩
               replace d2 := Decidable.not_not.1 d2
               rw [decide_eq_true d2] at HSH
               by_cases d3 : ¬ (kl ≤ (x.f4.length : Int))
               · rw [decide_eq_false d3] at HSH
                 go_wp2_with fail
                 go_ret
                 exact ⟨by rw [HSH.out]; rfl, HB.out⟩
               replace d3 := Decidable.not_not.1 d3
               rw [decide_eq_true d3] at HSH
               by_cases d4 : ¬ ((x.f4.length : Int) ≤ km)
               · rw [decide_eq_false d4] at HSH
                 go_wp2_with fail
                 go_ret
                 exact ⟨by rw [HSH.out]; rfl, HB.out⟩
               replace d4 := Decidable.not_not.1 d4
               rw [decide_eq_true d4] at HSH
               go_wp2_with fail
               go_ret
               exact ⟨by rw [HSH.out]; rfl, HB.out⟩
           | false =>
             cases ct with
             | true =>
               go_wp2_with fail
               go_ret
               exact ⟨by rw [HSH.out]; rfl, HB.out⟩
             | false =>
               cases q2 : (x.f2 == 0) with
               | false =>
                 rw [q2] at HSH
                 go_wp2_with fail
                 go_ret
                 exact ⟨by rw [HSH.out]; rfl, HB.out⟩
               | true =>
                 rw [q2] at HSH
                 by_cases d1 : ¬ (cl ≤ (x.f3.length : Int))
                 · rw [decide_eq_false d1] at HSH
                   go_wp2_with fail
                   go_ret
                   exact ⟨by rw [HSH.out]; rfl, HB.out⟩
                 replace d1 := Decidable.not_not.1 d1
                 rw [decide_eq_true d1] at HSH
                 by_cases d2 : ¬ ((x.f3.length : Int) ≤ cm)
                 · rw [decide_eq_false d2] at HSH
                   go_wp2_with fail
                   go_ret
                   exact ⟨by rw [HSH.out]; rfl, HB.out⟩
                 replace d2 := Decidable.not_not.1 d2
                 rw [decide_eq_true d2] at HSH
                 by_cases d3 : ¬ (kl ≤ (x.f4.length : Int))
                 · rw [decide_eq_false d3] at HSH
                   go_wp2_with fail
                   go_ret
                   exact ⟨by rw [HSH.out]; rfl, HB.out⟩
                 replace d3 := Decidable.not_not.1 d3
                 rw [decide_eq_true d3] at HSH
                 by_cases d4 : ¬ ((x.f4.length : Int) ≤ km)
                 · rw [decide_eq_false d4] at HSH
                   go_wp2_with fail
                   go_ret
                   exact ⟨by rw [HSH.out]; rfl, HB.out⟩
                 replace d4 := Decidable.not_not.1 d4
                 rw [decide_eq_true d4] at HSH
                 go_wp2_with fail
                 go_ret
                 exact ⟨by rw [HSH.out]; rfl, HB.out⟩
       | false =>
         cases nd with
         | true =>
           go_wp2_with fail
           go_ret
           exact ⟨by rw [HSH.out]; rfl, HB.out⟩
         | false =>
           cases q1 : (x.f1.toList == ([] : List UInt8)) with
           | false =>
             rw [q1] at HSH
             go_wp2_with fail
             go_ret
             exact ⟨by rw [HSH.out]; rfl, HB.out⟩
           | true =>
             rw [q1] at HSH
             cases nb with
             | true =>
               cases ct with
               | false =>
                 go_wp2_with fail
                 go_ret
                 exact ⟨by rw [HSH.out]; rfl, HB.out⟩
               | true =>
                 by_cases d1 : ¬ (cl ≤ (x.f3.length : Int))
                 · rw [decide_eq_false d1] at HSH
                   go_wp2_with fail
                   go_ret
                   exact ⟨by rw [HSH.out]; rfl, HB.out⟩
                 replace d1 := Decidable.not_not.1 d1
                 rw [decide_eq_true d1] at HSH
                 by_cases d2 : ¬ ((x.f3.length : Int) ≤ cm)
                 · rw [decide_eq_false d2] at HSH
                   go_wp2_with fail
                   go_ret
                   exact ⟨by rw [HSH.out]; rfl, HB.out⟩
                 replace d2 := Decidable.not_not.1 d2
                 rw [decide_eq_true d2] at HSH
                 by_cases d3 : ¬ (kl ≤ (x.f4.length : Int))
                 · rw [decide_eq_false d3] at HSH
                   go_wp2_with fail
                   go_ret
                   exact ⟨by rw [HSH.out]; rfl, HB.out⟩
                 replace d3 := Decidable.not_not.1 d3
                 rw [decide_eq_true d3] at HSH
                 by_cases d4 : ¬ ((x.f4.length : Int) ≤ km)
                 · rw [decide_eq_false d4] at HSH
                   go_wp2_with fail
                   go_ret
                   exact ⟨by rw [HSH.out]; rfl, HB.out⟩
                 replace d4 := Decidable.not_not.1 d4
                 rw [decide_eq_true d4] at HSH
                 go_wp2_with fail
                 go_ret
                 exact ⟨by rw [HSH.out]; rfl, HB.out⟩
             | false =>
               cases ct with
               | true =>
                 go_wp2_with fail
                 go_ret
                 exact ⟨by rw [HSH.out]; rfl, HB.out⟩
               | false =>
                 cases q2 : (x.f2 == 0) with
                 | false =>
                   rw [q2] at HSH
                   go_wp2_with fail
                   go_ret
                   exact ⟨by rw [HSH.out]; rfl, HB.out⟩
                 | true =>
                   rw [q2] at HSH
                   by_cases d1 : ¬ (cl ≤ (x.f3.length : Int))
                   · rw [decide_eq_false d1] at HSH
                     go_wp2_with fail
                     go_ret
                     exact ⟨by rw [HSH.out]; rfl, HB.out⟩
                   replace d1 := Decidable.not_not.1 d1
                   rw [decide_eq_true d1] at HSH
                   by_cases d2 : ¬ ((x.f3.length : Int) ≤ cm)
                   · rw [decide_eq_false d2] at HSH
                     go_wp2_with fail
                     go_ret
                     exact ⟨by rw [HSH.out]; rfl, HB.out⟩
                   replace d2 := Decidable.not_not.1 d2
                   rw [decide_eq_true d2] at HSH
                   by_cases d3 : ¬ (kl ≤ (x.f4.length : Int))
                   · rw [decide_eq_false d3] at HSH
                     go_wp2_with fail
                     go_ret
                     exact ⟨by rw [HSH.out]; rfl, HB.out⟩
                   replace d3 := Decidable.not_not.1 d3
                   rw [decide_eq_true d3] at HSH
                   by_cases d4 : ¬ ((x.f4.length : Int) ≤ km)
                   · rw [decide_eq_false d4] at HSH
                     go_wp2_with fail
                     go_ret
                     exact ⟨by rw [HSH.out]; rfl, HB.out⟩
                   replace d4 := Decidable.not_not.1 d4
                   rw [decide_eq_true d4] at HSH
                   go_wp2_with fail
                   go_ret
                   exact ⟨by rw [HSH.out]; rfl, HB.out⟩
def extraB (made : Bool) (x : S42) : Bool :=
 if x.f0 = 11 then allB x.f3 1 1 (conB made) else if x.f0 = 12 ∨ x.f0 = 13 then (((x.f3.length : Int) == (x.f4.length : Int)) && allB x.f3 1 8 (conB made)) else if x.f0 = 14 then allB x.f3 0 6 (nameB made) else if x.f0 = 15 then ((x.f4.getD 0 z42).f0 == 14) else true
mutual
def rexprB (made : Bool) : S42 → Bool
 | ⟨a, b, c, d, k⟩ => shapeB made ⟨a, b, c, d, k⟩ && (extraB made ⟨a, b, c, d, k⟩ && rexprsB made k)
def rexprsB (made : Bool) : List S42 → Bool
 | [] => true
 | k :: r => rexprB made k && rexprsB made r
end
theorem rexprB_eq (made : Bool) (x : S42) : rexprB made x = (shapeB made x && (extraB made x && rexprsB made x.f4)) := by cases x; rw [rexprB]
theorem rexprsB_step (made : Bool) (l : List S42) (k : Nat) (h : k < l.length) : rexprsB made (l.drop k) = (rexprB made (l.getD k z42) && rexprsB made (l.drop (k + 1))) := by
 rw [drop_getD2 l z42 k h, rexprsB]
theorem shape_every (made : Bool) (x : S42) (h : shapeB made x = true) (e : x.f0 = 15) : 0 < x.f4.length := by
 unfold shapeB at h
 simp only [Bool.and_eq_true, decide_eq_true_eq] at h
 have hk : (wantsOf made x.f0).kids = 2 := by rw [e]; rfl
 have := h.2.2.2.2.2.2.2.1
 omega
def RExprSays (made : Bool) (x : S42) : Prop := ∀ (w : World) (csx : List Value), k42.K w x csx →
 Calls Tryz.prog 64 #[.agg csx.toArray, .bool made] w fun e w' => e = .returned (.bool (rexprB made x)) ∧ Below w.heap.size w w'
set_option maxHeartbeats 16000000 in
theorem rexpr_step (made : Bool) (x : S42) (ih : ∀ i, i < x.f4.length → RExprSays made (x.f4.getD i z42)) : RExprSays made x := by
 intro w csx hK
 have hsh := fun (W : World) (hB : Below w.heap.size w W) => rshape_calls made x W csx (Kd.K_below _ hB hK)
 obtain ⟨A3, c3, A4, c4, rfl, l3, g3, l4, g4⟩ := k42_open hK
 have L3 := Aside0.mk l3; have G3 := Aside0.mk g3; clear l3 g3
 have L4 := Aside0.mk l4; have G4 := Aside0.mk g4; clear l4 g4
 clear hK
 have HB := Aside0.mk (Below.refl w.heap.size w)
 have IH := Aside0.mk ih; clear ih
 have hu1 := Tryz.underlying42
 have HF := Aside0.mk (rexprB_eq made x)
 have HEV := Aside0.mk (shape_every made x)
 generalize shapeB made x = sh at hsh HF HEV
 have HXT := Aside0.mk (show extraB made x = (if x.f0 = 11 then allB x.f3 1 1 (conB made) else if x.f0 = 12 ∨ x.f0 = 13 then (((x.f3.length : Int) == (x.f4.length : Int)) && allB x.f3 1 8 (conB made)) else if x.f0 = 14 then allB x.f3 0 6 (nameB made) else if x.f0 = 15 then ((x.f4.getD 0 z42).f0 == 14) else true) from rfl)
 generalize extraB made x = ex at HF HXT
 have h1 := fun (W : World) (hB : Below w.heap.size w W) => rcons_calls made A3 c3 x.f3 1 1 W (Kd.C_below G3.out hB) L3.out
 have h8 := fun (W : World) (hB : Below w.heap.size w W) => rcons_calls made A3 c3 x.f3 1 8 W (Kd.C_below G3.out hB) L3.out
 have h6 := fun (W : World) (hB : Below w.heap.size w W) => rnames_calls made A3 c3 x.f3 0 6 W (Kd.C_below G3.out hB) L3.out
 generalize allB x.f3 1 1 (conB made) = b1 at HXT h1
 generalize allB x.f3 1 8 (conB made) = b8 at HXT h8
 generalize allB x.f3 0 6 (nameB made) = b6 at HXT h6
 go_enter Tryz.func64, Tryz.ntmps64
 go_wp2_with ((with_reducible refine gate_dst (N := 2) rfl ?_); refine box_event ?hg (N := 2) ?hd (cs := #[.int .i64 x.f0, .string x.f1, .int .i64 x.f2, .slice A3 (x.f3).length c3, .slice A4 (x.f4).length c4]) (t := 42) ?hr ?_; (case hd => rfl); (case hg => rfl); (case hr => first | (go_simp; done) | (go_simp; rfl)); intro g2 hg_ w_ hbox hb; have B2 := Aside0.mk hbox; have LB2 := Aside0.mk ((by rw [hg_]; exact below_size HB.out) : w.heap.size ≤ g2); replace HB := Aside0.mk (below_step HB.out hb); clear hb hbox hg_; have c2_0 := (blk_cell B2.out 0).trans rfl; have c2_1 := (blk_cell B2.out 1).trans rfl; have c2_2 := (blk_cell B2.out 2).trans rfl; have c2_3 := (blk_cell B2.out 3).trans rfl; have c2_4 := (blk_cell B2.out 4).trans rfl)
 refine (hsh _ HB.out).mono ?_
 rintro e_ w3 ⟨rfl, hb⟩
 replace B2 := Aside0.mk (below_blk B2.out hb)
 replace HB := Aside0.mk (below_step HB.out hb)
 clear hb hsh c2_0 c2_1 c2_2 c2_3 c2_4
 cases sh with
 | false =>
   clear h1 h8 h6
   go_wp2_with fail
   go_ret
   exact ⟨by rw [HF.out]; rfl, HB.out⟩
 | true =>
 have HF1 := Aside0.mk (show rexprB made x = (ex && rexprsB made x.f4) by rw [HF.out]; rfl)
 clear HF
 have HEV2 := Aside0.mk (show x.f0 = 15 → 0 < x.f4.length from fun e => HEV.out rfl e)
 clear HEV
 have c2_0 := (blk_cell B2.out 0).trans rfl
 have c2_1 := (blk_cell B2.out 1).trans rfl
 have c2_2 := (blk_cell B2.out 2).trans rfl
 have c2_3 := (blk_cell B2.out 3).trans rfl
 have c2_4 := (blk_cell B2.out 4).trans rfl
 go_upto_block 0 with (fail)
 go_cut [4] from 12 to 50 (fun s4 wx => s4 = .bool false ∧ Aside0 (ex = true) ∧ Aside0 (Below w.heap.size w wx) ∧ Aside0 (wx.heap[g2]? = some (.cells #[.int .i64 x.f0, .string x.f1, .int .i64 x.f2, .slice A3 (x.f3).length c3, .slice A4 (x.f4).length c4] 42 (0, 0))))
 case first =>
   by_cases e11 : x.f0 = 11
   · have t11 : (x.f0 == 11) = true := by rw [e11]; rfl
     have HT := Aside0.mk (show ex = b1 by rw [HXT.out, if_pos e11])
     clear e11 HXT
     go_wp2_with fail
     refine (h1 _ HB.out).mono ?_
     rintro e_ w5 ⟨rfl, hb⟩
     replace B2 := Aside0.mk (below_blk B2.out hb)
     replace HB := Aside0.mk (below_step HB.out hb)
     clear hb h1 h8 h6 c2_0 c2_1 c2_2 c2_3 c2_4
     cases b1 with
     | false =>
       go_wp2_with fail
       go_ret
       exact ⟨by rw [HF1.out, HT.out]; rfl, HB.out⟩
     | true =>
       go_wp2_with fail
       go_meet
       case rel => exact ⟨rfl, HT, HB, B2⟩
   by_cases e12 : x.f0 = 12
   · have t12 : (x.f0 == 12) = true := by rw [e12]; rfl
     have t11 : (x.f0 == 11) = false := rne_bool (by omega)
     have HT0 := Aside0.mk (show ex = (((x.f3.length : Int) == (x.f4.length : Int)) && b8) by rw [HXT.out, if_neg (by omega), if_pos (by omega)])
     clear e12 HXT
     cases hq : ((x.f3.length : Int) == (x.f4.length : Int)) with
     | false =>
       have HT := Aside0.mk (show ex = false by rw [HT0.out, hq]; rfl)
       have hq2 : ((x.f3.length : Int) != (x.f4.length : Int)) = true := by rw [bne, hq]; rfl
       clear h1 h8 h6 HT0
       go_wp2_with fail
       go_ret
       exact ⟨by rw [HF1.out, HT.out]; rfl, HB.out⟩
     | true =>
       have HT := Aside0.mk (show ex = b8 by rw [HT0.out, hq]; rfl)
       have hq2 : ((x.f3.length : Int) != (x.f4.length : Int)) = false := by rw [bne, hq]; rfl
       clear HT0
       go_wp2_with fail
       refine (h8 _ HB.out).mono ?_
       rintro e_ w5 ⟨rfl, hb⟩
       replace B2 := Aside0.mk (below_blk B2.out hb)
       replace HB := Aside0.mk (below_step HB.out hb)
       clear hb h1 h8 h6 c2_0 c2_1 c2_2 c2_3 c2_4
       cases b8 with
       | false =>
         go_wp2_with fail
         go_ret
         exact ⟨by rw [HF1.out, HT.out]; rfl, HB.out⟩
       | true =>
         go_wp2_with fail
         go_meet
         case rel => exact ⟨rfl, HT, HB, B2⟩
   by_cases e13 : x.f0 = 13
   · have t13 : (x.f0 == 13) = true := by rw [e13]; rfl
     have t11 : (x.f0 == 11) = false := rne_bool (by omega)
     have t12 : (x.f0 == 12) = false := rne_bool (by omega)
     have HT0 := Aside0.mk (show ex = (((x.f3.length : Int) == (x.f4.length : Int)) && b8) by rw [HXT.out, if_neg (by omega), if_pos (by omega)])
     clear e13 HXT
     cases hq : ((x.f3.length : Int) == (x.f4.length : Int)) with
     | false =>
       have HT := Aside0.mk (show ex = false by rw [HT0.out, hq]; rfl)
       have hq2 : ((x.f3.length : Int) != (x.f4.length : Int)) = true := by rw [bne, hq]; rfl
       clear h1 h8 h6 HT0
       go_wp2_with fail
       go_ret
       exact ⟨by rw [HF1.out, HT.out]; rfl, HB.out⟩
     | true =>
       have HT := Aside0.mk (show ex = b8 by rw [HT0.out, hq]; rfl)
       have hq2 : ((x.f3.length : Int) != (x.f4.length : Int)) = false := by rw [bne, hq]; rfl
       clear HT0
       go_wp2_with fail
       refine (h8 _ HB.out).mono ?_
       rintro e_ w5 ⟨rfl, hb⟩
       replace B2 := Aside0.mk (below_blk B2.out hb)
       replace HB := Aside0.mk (below_step HB.out hb)
       clear hb h1 h8 h6 c2_0 c2_1 c2_2 c2_3 c2_4
       cases b8 with
       | false =>
         go_wp2_with fail
         go_ret
         exact ⟨by rw [HF1.out, HT.out]; rfl, HB.out⟩
       | true =>
         go_wp2_with fail
         go_meet
         case rel => exact ⟨rfl, HT, HB, B2⟩
   by_cases e14 : x.f0 = 14
   · have t14 : (x.f0 == 14) = true := by rw [e14]; rfl
     have t11 : (x.f0 == 11) = false := rne_bool (by omega)
     have t12 : (x.f0 == 12) = false := rne_bool (by omega)
     have t13 : (x.f0 == 13) = false := rne_bool (by omega)
     have HT := Aside0.mk (show ex = b6 by rw [HXT.out, if_neg (by omega), if_neg (by omega), if_pos e14])
     clear e14 HXT
     go_wp2_with fail
     refine (h6 _ HB.out).mono ?_
     rintro e_ w5 ⟨rfl, hb⟩
     replace B2 := Aside0.mk (below_blk B2.out hb)
     replace HB := Aside0.mk (below_step HB.out hb)
     clear hb h1 h8 h6 c2_0 c2_1 c2_2 c2_3 c2_4
     cases b6 with
     | false =>
       go_wp2_with fail
       go_ret
       exact ⟨by rw [HF1.out, HT.out]; rfl, HB.out⟩
     | true =>
       go_wp2_with fail
       go_meet
       case rel => exact ⟨rfl, HT, HB, B2⟩
   by_cases e15 : x.f0 = 15
   · have t15 : (x.f0 == 15) = true := by rw [e15]; rfl
     have t11 : (x.f0 == 11) = false := rne_bool (by omega)
     have t12 : (x.f0 == 12) = false := rne_bool (by omega)
     have t13 : (x.f0 == 13) = false := rne_bool (by omega)
     have t14 : (x.f0 == 14) = false := rne_bool (by omega)
     have hex : ex = ((x.f4.getD 0 z42).f0 == 14) := by rw [HXT.out, if_neg (by omega), if_neg (by omega), if_neg (by omega), if_pos e15]
     have hp4 := HEV2.out e15
     have hp4z : (0 : Int) < (x.f4.length : Int) := by omega
     clear e15 HXT
     obtain ⟨yad, ycs, rfl, _, yK, ycc⟩ := Kd.C_get G4.out z42 ((0 : Nat) : Int) (by omega) (by omega)
     have yK' := yK
     obtain ⟨yA3, yc3, yA4, yc4, rfl, yl3, yg3, yl4, yg4⟩ := k42_open yK'
     have yx0 := (HB.out.cell (World.block_lt_of_cell? w _ (ycc 0 _ rfl))).trans (ycc 0 _ rfl)
     have yx1 := (HB.out.cell (World.block_lt_of_cell? w _ (ycc 1 _ rfl))).trans (ycc 1 _ rfl)
     have yx2 := (HB.out.cell (World.block_lt_of_cell? w _ (ycc 2 _ rfl))).trans (ycc 2 _ rfl)
     have yx3 := (HB.out.cell (World.block_lt_of_cell? w _ (ycc 3 _ rfl))).trans (ycc 3 _ rfl)
     have yx4 := (HB.out.cell (World.block_lt_of_cell? w _ (ycc 4 _ rfl))).trans (ycc 4 _ rfl)
     rw [show (k42).sz = 5 from rfl, Nat.add_zero, Int.toNat_natCast] at yx0
     rw [show (k42).sz = 5 from rfl, Int.toNat_natCast, add_field _ _ 1 (by omega)] at yx1
     rw [show (k42).sz = 5 from rfl, Int.toNat_natCast, add_field _ _ 2 (by omega)] at yx2
     rw [show (k42).sz = 5 from rfl, Int.toNat_natCast, add_field _ _ 3 (by omega)] at yx3
     rw [show (k42).sz = 5 from rfl, Int.toNat_natCast, add_field _ _ 4 (by omega)] at yx4
     clear ycc
     try simp only [Int.toNat_natCast] at yx0 yx1 yx2 yx3 yx4 yK yl3 yg3 yl4 yg4
     generalize Yy0 : x.f4.getD 0 z42 = y at hex yx0 yx1 yx2 yx3 yx4 yK yl3 yg3 yl4 yg4
     have Yy := Aside0.mk Yy0; clear Yy0
     have yL3 := Aside0.mk yl3; have yG3 := Aside0.mk yg3; clear yl3 yg3
     have yL4 := Aside0.mk yl4; have yG4 := Aside0.mk yg4; clear yl4 yg4
     simp only [Nat.zero_mul, add_zero'] at yx0 yx1 yx2 yx3 yx4
     have HEX := Aside0.mk hex; clear hex yK
     clear h1 h8 h6
     cases hq : (y.f0 == 14) with
     | false =>
       have HT := Aside0.mk (show ex = false by rw [HEX.out, hq])
       have hq2 : (y.f0 != 14) = true := by rw [bne, hq]; rfl
       go_wp2_with fail
       go_ret
       exact ⟨by rw [HF1.out, HT.out]; rfl, HB.out⟩
     | true =>
       have HT := Aside0.mk (show ex = true by rw [HEX.out, hq])
       have hq2 : (y.f0 != 14) = false := by rw [bne, hq]; rfl
       go_wp2_with fail
       go_meet
       case rel => exact ⟨rfl, HT, HB, B2⟩
   have t11 : (x.f0 == 11) = false := rne_bool (by omega)
   have t12 : (x.f0 == 12) = false := rne_bool (by omega)
   have t13 : (x.f0 == 13) = false := rne_bool (by omega)
   have t14 : (x.f0 == 14) = false := rne_bool (by omega)
   have t15 : (x.f0 == 15) = false := rne_bool (by omega)
   have HT := Aside0.mk (show ex = true by rw [HXT.out, if_neg e11, if_neg (by omega), if_neg e14, if_neg e15])
   clear e11 e12 e13 e14 e15 HXT h1 h8 h6
   go_wp2_with fail
   go_meet
   case rel => exact ⟨rfl, HT, HB, B2⟩
 case rest =>
   clear HB B2 HXT h1 h8 h6 c2_0 c2_1 c2_2 c2_3 c2_4
   obtain ⟨rfl, HT, HB, B2⟩ := hcut
   have HF2 := Aside0.mk (show rexprB made x = rexprsB made x.f4 by rw [HF1.out, HT.out]; rfl)
   have HU0 := Aside0.mk (show rexprsB made (x.f4.drop 0) = rexprsB made x.f4 by rw [List.drop_zero])
   generalize rexprsB made x.f4 = R at HF2 HU0
   clear HF1 HT
   go_wp2_with fail
   go_loopg [5] x.f4.length (fun gg s_ wr => ∃ (kka : Nat), kka ≤ x.f4.length ∧ x.f4.length - kka ≤ gg ∧ s_ = .int .i64 kka ∧ Aside0 (Below w.heap.size w wr) ∧ Aside0 (wr.heap[g2]? = some (.cells #[.int .i64 x.f0, .string x.f1, .int .i64 x.f2, .slice A3 (x.f3).length c3, .slice A4 (x.f4).length c4] 42 (0, 0))) ∧ Aside0 (rexprsB made (x.f4.drop kka) = R))
   case atStart => exact ⟨0, Nat.zero_le _, by omega, rfl, HB, B2, HU0⟩
   case round =>
     clear HB B2
     obtain ⟨kka, hkka, hgkka, rfl, HB, B2, U⟩ := hrel
     have hmxa : x.f4.length ≤ 9223372036854775807 := (G4.out).2.1
     by_cases hlta : kka < x.f4.length
     · have hltza : (kka : Int) < (x.f4.length : Int) := by omega
       have c2_0 := (blk_cell B2.out 0).trans rfl
       have c2_1 := (blk_cell B2.out 1).trans rfl
       have c2_2 := (blk_cell B2.out 2).trans rfl
       have c2_3 := (blk_cell B2.out 3).trans rfl
       have c2_4 := (blk_cell B2.out 4).trans rfl
       have hst := rexprsB_step made x.f4 kka hlta
       have hih := IH.out kka hlta
       obtain ⟨yad, ycs, rfl, _, yK, ycc⟩ := Kd.C_get G4.out z42 (kka : Int) (by omega) (by omega)
       have yK' := yK
       obtain ⟨yA3, yc3, yA4, yc4, rfl, yl3, yg3, yl4, yg4⟩ := k42_open yK'
       have yx0 := (HB.out.cell (World.block_lt_of_cell? w _ (ycc 0 _ rfl))).trans (ycc 0 _ rfl)
       have yx1 := (HB.out.cell (World.block_lt_of_cell? w _ (ycc 1 _ rfl))).trans (ycc 1 _ rfl)
       have yx2 := (HB.out.cell (World.block_lt_of_cell? w _ (ycc 2 _ rfl))).trans (ycc 2 _ rfl)
       have yx3 := (HB.out.cell (World.block_lt_of_cell? w _ (ycc 3 _ rfl))).trans (ycc 3 _ rfl)
       have yx4 := (HB.out.cell (World.block_lt_of_cell? w _ (ycc 4 _ rfl))).trans (ycc 4 _ rfl)
       rw [show (k42).sz = 5 from rfl, Nat.add_zero, Int.toNat_natCast] at yx0
       rw [show (k42).sz = 5 from rfl, Int.toNat_natCast, add_field _ _ 1 (by omega)] at yx1
       rw [show (k42).sz = 5 from rfl, Int.toNat_natCast, add_field _ _ 2 (by omega)] at yx2
       rw [show (k42).sz = 5 from rfl, Int.toNat_natCast, add_field _ _ 3 (by omega)] at yx3
       rw [show (k42).sz = 5 from rfl, Int.toNat_natCast, add_field _ _ 4 (by omega)] at yx4
       clear ycc
       try simp only [Int.toNat_natCast] at yx0 yx1 yx2 yx3 yx4 yK yl3 yg3 yl4 yg4
       generalize Yy0 : x.f4.getD kka z42 = y at hst hih yx0 yx1 yx2 yx3 yx4 yK yl3 yg3 yl4 yg4
       have Yy := Aside0.mk Yy0; clear Yy0
       have yL3 := Aside0.mk yl3; have yG3 := Aside0.mk yg3; clear yl3 yg3
       have yL4 := Aside0.mk yl4; have yG4 := Aside0.mk yg4; clear yl4 yg4
       have HST := Aside0.mk hst
       have hcall := fun (W : World) (hB : Below w.heap.size w W) => hih W _ (Kd.K_below _ hB yK)
       clear hst hih yK
       generalize rexprB made y = ub at HST hcall
       go_wp2_with fail
       refine (hcall _ HB.out).mono ?_
       rintro e_ w6 ⟨rfl, hb⟩
       replace B2 := Aside0.mk (below_blk B2.out hb)
       replace HB := Aside0.mk (below_step HB.out hb)
       clear hb hcall yx0 yx1 yx2 yx3 yx4 c2_0 c2_1 c2_2 c2_3 c2_4
       cases ub with
       | false =>
         have HR := Aside0.mk (show R = false by rw [← U.out, HST.out]; rfl)
         go_wp2_with fail
         go_ret
         exact ⟨by rw [HF2.out, HR.out]; rfl, HB.out⟩
       | true =>
         have U2 := Aside0.mk (show rexprsB made (x.f4.drop (kka + 1)) = R by rw [← U.out, HST.out, Bool.true_and])
         go_wp2_with fail
         go_roundg (x.f4.length - (kka + 1))
         case measure => omega
         case rel => exact ⟨kka + 1, by omega, by omega, by go_num, HB, B2, U2⟩
     · have hltza : ¬ (kka : Int) < (x.f4.length : Int) := by omega
       obtain rfl : kka = x.f4.length := by omega
       have c2_0 := (blk_cell B2.out 0).trans rfl
       have c2_1 := (blk_cell B2.out 1).trans rfl
       have c2_2 := (blk_cell B2.out 2).trans rfl
       have c2_3 := (blk_cell B2.out 3).trans rfl
       have c2_4 := (blk_cell B2.out 4).trans rfl
       have HR := Aside0.mk (show R = true by rw [← U.out, List.drop_length]; rfl)
       go_wp2_with fail
       go_ret
       exact ⟨by rw [HF2.out, HR.out]; rfl, HB.out⟩
theorem rexpr_says (made : Bool) (n : Nat) : ∀ x : S42, SizeOf.sizeOf x ≤ n → RExprSays made x := by
 induction n with
 | zero => intro x h; exfalso; cases x; simp only [S42.mk.sizeOf_spec] at h; omega
 | succ n ih => intro x h; exact rexpr_step made x (fun i hi => ih _ (by have := sizeOf_kid x i hi; omega))
theorem rexpr_calls (made : Bool) (x : S42) (w : World) (csx : List Value) (hK : k42.K w x csx) : Calls Tryz.prog 64 #[.agg csx.toArray, .bool made] w fun e w' => e = .returned (.bool (rexprB made x)) ∧ Below w.heap.size w w' := rexpr_says made _ x (Nat.le_refl _) w csx hK
theorem same_none (l : List ByteArray) : penduleref01_SameNames.f 1 l [] = some ((l.length : Int) == 0) := by
 unfold penduleref01_SameNames.f
 by_cases h : l.length = 0
 · have : l = [] := List.length_eq_zero_iff.1 h
   subst this
   rw [if_pos rfl]
   simp [penduleref01_SameNames.l0]
 · rw [if_neg (show ¬ ((l.length : Int) = (([] : List ByteArray).length : Int)) by simp only [List.length_nil]; omega)]
   have : ((l.length : Int) == 0) = false := rne_bool (by omega)
   rw [this]
theorem same_none_calls (A : Option Addr) (c : Nat) (l : List ByteArray) (w : World) (hC : Kd.string.C w A l.length l) (hc : l.length ≤ c) :
   Calls Tryz.prog 88 #[.slice A l.length c, .slice none 0 0] w fun e w' => e = .returned (.bool ((l.length : Int) == 0)) ∧ Below w.heap.size w w' := by
 refine (penduleref01_SameNames.calls 1 A c l none 0 [] _ w hC hc (Kd.C_nil _ _) (Nat.le_refl 0) (same_none l)).mono ?_
 rintro e w' ⟨rfl, ⟨k, rfl⟩⟩
 exact ⟨rfl, pw_below_drewN (Below.refl _ _) k⟩
def rzeroB (x : S42) : Bool := (x.f0 == 0) && ((x.f1.toList == ([] : List UInt8)) && ((x.f2 == 0) && (((x.f3.length : Int) == 0) && ((x.f4.length : Int) == 0))))
set_option maxHeartbeats 8000000 in
theorem rzero_calls (x : S42) (w : World) (csx : List Value) (hK : k42.K w x csx) :
   Calls Tryz.prog 63 #[.agg csx.toArray, .agg #[.int .i64 0, .string ⟨#[]⟩, .int .i64 0, .slice none 0 0, .slice none 0 0]] w fun e w' => e = .returned (.bool (rzeroB x)) ∧ Below w.heap.size w w' := by
 obtain ⟨A3, c3, A4, c4, rfl, l3, g3, l4, g4⟩ := k42_open hK
 have L3 := Aside0.mk l3; have G3 := Aside0.mk g3; clear l3 g3
 have L4 := Aside0.mk l4; have G4 := Aside0.mk g4; clear l4 g4
 clear hK
 have HB := Aside0.mk (Below.refl w.heap.size w)
 have hu1 := Tryz.underlying42
 have hsn := fun (W : World) (hB : Below w.heap.size w W) => same_none_calls A3 c3 x.f3 W (Kd.C_below G3.out hB) L3.out
 have HF := Aside0.mk (show rzeroB x = ((x.f0 == 0) && ((x.f1.toList == ([] : List UInt8)) && ((x.f2 == 0) && (((x.f3.length : Int) == 0) && ((x.f4.length : Int) == 0))))) from rfl)
 cases q0 : (x.f0 == 0) with
 | false =>
   rw [q0] at HF
   have nq0 : (x.f0 != 0) = true := by rw [bne, q0]; rfl
   go_enter Tryz.func63, Tryz.ntmps63
   clear hsn
   go_wp2_with (first | ((with_reducible refine gate_dst (N := 2) rfl ?_); refine box_event ?hg (N := 2) ?hd (cs := #[.int .i64 x.f0, .string x.f1, .int .i64 x.f2, .slice A3 (x.f3).length c3, .slice A4 (x.f4).length c4]) (t := 42) ?hr ?_; (case hd => rfl); (case hg => rfl); (case hr => first | (go_simp; done) | (go_simp; rfl)); intro g2 hg_ w_ hbox hb; have B2 := Aside0.mk hbox; have LB2 := Aside0.mk ((by rw [hg_]; exact below_size HB.out) : w.heap.size ≤ g2); replace HB := Aside0.mk (below_step HB.out hb); clear hb hbox hg_) | ((with_reducible refine gate_dst (N := 3) rfl ?_); refine box_event ?hg (N := 3) ?hd (cs := #[.int .i64 0, .string ⟨#[]⟩, .int .i64 0, .slice none 0 0, .slice none 0 0]) (t := 42) ?hr ?_; (case hd => rfl); (case hg => rfl); (case hr => first | (go_simp; done) | (go_simp; rfl)); intro g3 hg_ w_ hbox hb; replace B2 := Aside0.mk (below_blk B2.out hb); have B3 := Aside0.mk hbox; have LB3 := Aside0.mk ((by rw [hg_]; exact below_size HB.out) : w.heap.size ≤ g3); replace HB := Aside0.mk (below_step HB.out hb); clear hb hbox hg_; have c2_0 := (blk_cell B2.out 0).trans rfl; have c2_1 := (blk_cell B2.out 1).trans rfl; have c2_2 := (blk_cell B2.out 2).trans rfl; have c2_3 := (blk_cell B2.out 3).trans rfl; have c2_4 := (blk_cell B2.out 4).trans rfl; have c3_0 := (blk_cell B3.out 0).trans rfl; have c3_1 := (blk_cell B3.out 1).trans rfl; have c3_2 := (blk_cell B3.out 2).trans rfl; have c3_3 := (blk_cell B3.out 3).trans rfl; have c3_4 := (blk_cell B3.out 4).trans rfl))
   go_ret
   exact ⟨by rw [HF.out]; rfl, HB.out⟩
 | true =>
 rw [q0] at HF
 have nq0 : (x.f0 != 0) = false := by rw [bne, q0]; rfl
 cases q1 : (x.f1.toList == ([] : List UInt8)) with
 | false =>
   rw [q1] at HF
   have nq1 : (x.f1.toList != ([] : List UInt8)) = true := by rw [bne, q1]; rfl
   go_enter Tryz.func63, Tryz.ntmps63
   clear hsn
   go_wp2_with (first | ((with_reducible refine gate_dst (N := 2) rfl ?_); refine box_event ?hg (N := 2) ?hd (cs := #[.int .i64 x.f0, .string x.f1, .int .i64 x.f2, .slice A3 (x.f3).length c3, .slice A4 (x.f4).length c4]) (t := 42) ?hr ?_; (case hd => rfl); (case hg => rfl); (case hr => first | (go_simp; done) | (go_simp; rfl)); intro g2 hg_ w_ hbox hb; have B2 := Aside0.mk hbox; have LB2 := Aside0.mk ((by rw [hg_]; exact below_size HB.out) : w.heap.size ≤ g2); replace HB := Aside0.mk (below_step HB.out hb); clear hb hbox hg_) | ((with_reducible refine gate_dst (N := 3) rfl ?_); refine box_event ?hg (N := 3) ?hd (cs := #[.int .i64 0, .string ⟨#[]⟩, .int .i64 0, .slice none 0 0, .slice none 0 0]) (t := 42) ?hr ?_; (case hd => rfl); (case hg => rfl); (case hr => first | (go_simp; done) | (go_simp; rfl)); intro g3 hg_ w_ hbox hb; replace B2 := Aside0.mk (below_blk B2.out hb); have B3 := Aside0.mk hbox; have LB3 := Aside0.mk ((by rw [hg_]; exact below_size HB.out) : w.heap.size ≤ g3); replace HB := Aside0.mk (below_step HB.out hb); clear hb hbox hg_; have c2_0 := (blk_cell B2.out 0).trans rfl; have c2_1 := (blk_cell B2.out 1).trans rfl; have c2_2 := (blk_cell B2.out 2).trans rfl; have c2_3 := (blk_cell B2.out 3).trans rfl; have c2_4 := (blk_cell B2.out 4).trans rfl; have c3_0 := (blk_cell B3.out 0).trans rfl; have c3_1 := (blk_cell B3.out 1).trans rfl; have c3_2 := (blk_cell B3.out 2).trans rfl; have c3_3 := (blk_cell B3.out 3).trans rfl; have c3_4 := (blk_cell B3.out 4).trans rfl))
   go_ret
   exact ⟨by rw [HF.out]; rfl, HB.out⟩
 | true =>
 rw [q1] at HF
 have nq1 : (x.f1.toList != ([] : List UInt8)) = false := by rw [bne, q1]; rfl
 cases q2 : (x.f2 == 0) with
 | false =>
   rw [q2] at HF
   have nq2 : (x.f2 != 0) = true := by rw [bne, q2]; rfl
   go_enter Tryz.func63, Tryz.ntmps63
   clear hsn
   go_wp2_with (first | ((with_reducible refine gate_dst (N := 2) rfl ?_); refine box_event ?hg (N := 2) ?hd (cs := #[.int .i64 x.f0, .string x.f1, .int .i64 x.f2, .slice A3 (x.f3).length c3, .slice A4 (x.f4).length c4]) (t := 42) ?hr ?_; (case hd => rfl); (case hg => rfl); (case hr => first | (go_simp; done) | (go_simp; rfl)); intro g2 hg_ w_ hbox hb; have B2 := Aside0.mk hbox; have LB2 := Aside0.mk ((by rw [hg_]; exact below_size HB.out) : w.heap.size ≤ g2); replace HB := Aside0.mk (below_step HB.out hb); clear hb hbox hg_) | ((with_reducible refine gate_dst (N := 3) rfl ?_); refine box_event ?hg (N := 3) ?hd (cs := #[.int .i64 0, .string ⟨#[]⟩, .int .i64 0, .slice none 0 0, .slice none 0 0]) (t := 42) ?hr ?_; (case hd => rfl); (case hg => rfl); (case hr => first | (go_simp; done) | (go_simp; rfl)); intro g3 hg_ w_ hbox hb; replace B2 := Aside0.mk (below_blk B2.out hb); have B3 := Aside0.mk hbox; have LB3 := Aside0.mk ((by rw [hg_]; exact below_size HB.out) : w.heap.size ≤ g3); replace HB := Aside0.mk (below_step HB.out hb); clear hb hbox hg_; have c2_0 := (blk_cell B2.out 0).trans rfl; have c2_1 := (blk_cell B2.out 1).trans rfl; have c2_2 := (blk_cell B2.out 2).trans rfl; have c2_3 := (blk_cell B2.out 3).trans rfl; have c2_4 := (blk_cell B2.out 4).trans rfl; have c3_0 := (blk_cell B3.out 0).trans rfl; have c3_1 := (blk_cell B3.out 1).trans rfl; have c3_2 := (blk_cell B3.out 2).trans rfl; have c3_3 := (blk_cell B3.out 3).trans rfl; have c3_4 := (blk_cell B3.out 4).trans rfl))
   go_ret
   exact ⟨by rw [HF.out]; rfl, HB.out⟩
 | true =>
 rw [q2] at HF
 have nq2 : (x.f2 != 0) = false := by rw [bne, q2]; rfl
 go_enter Tryz.func63, Tryz.ntmps63
 go_wp2_with (first | ((with_reducible refine gate_dst (N := 2) rfl ?_); refine box_event ?hg (N := 2) ?hd (cs := #[.int .i64 x.f0, .string x.f1, .int .i64 x.f2, .slice A3 (x.f3).length c3, .slice A4 (x.f4).length c4]) (t := 42) ?hr ?_; (case hd => rfl); (case hg => rfl); (case hr => first | (go_simp; done) | (go_simp; rfl)); intro g2 hg_ w_ hbox hb; have B2 := Aside0.mk hbox; have LB2 := Aside0.mk ((by rw [hg_]; exact below_size HB.out) : w.heap.size ≤ g2); replace HB := Aside0.mk (below_step HB.out hb); clear hb hbox hg_) | ((with_reducible refine gate_dst (N := 3) rfl ?_); refine box_event ?hg (N := 3) ?hd (cs := #[.int .i64 0, .string ⟨#[]⟩, .int .i64 0, .slice none 0 0, .slice none 0 0]) (t := 42) ?hr ?_; (case hd => rfl); (case hg => rfl); (case hr => first | (go_simp; done) | (go_simp; rfl)); intro g3 hg_ w_ hbox hb; replace B2 := Aside0.mk (below_blk B2.out hb); have B3 := Aside0.mk hbox; have LB3 := Aside0.mk ((by rw [hg_]; exact below_size HB.out) : w.heap.size ≤ g3); replace HB := Aside0.mk (below_step HB.out hb); clear hb hbox hg_; have c2_0 := (blk_cell B2.out 0).trans rfl; have c2_1 := (blk_cell B2.out 1).trans rfl; have c2_2 := (blk_cell B2.out 2).trans rfl; have c2_3 := (blk_cell B2.out 3).trans rfl; have c2_4 := (blk_cell B2.out 4).trans rfl; have c3_0 := (blk_cell B3.out 0).trans rfl; have c3_1 := (blk_cell B3.out 1).trans rfl; have c3_2 := (blk_cell B3.out 2).trans rfl; have c3_3 := (blk_cell B3.out 3).trans rfl; have c3_4 := (blk_cell B3.out 4).trans rfl))
 refine (hsn _ HB.out).mono ?_
 generalize ((x.f3.length : Int) == 0) = q3 at HF ⊢
 rintro e_ w5 ⟨rfl, hb⟩
 replace B2 := Aside0.mk (below_blk B2.out hb)
 replace B3 := Aside0.mk (below_blk B3.out hb)
 replace HB := Aside0.mk (below_step HB.out hb)
 clear hb hsn c2_0 c2_1 c2_2 c2_3 c2_4 c3_0 c3_1 c3_2 c3_3 c3_4
 cases q3 with
 | false =>
   have c2_0 := (blk_cell B2.out 0).trans rfl
   have c2_1 := (blk_cell B2.out 1).trans rfl
   have c2_2 := (blk_cell B2.out 2).trans rfl
   have c2_3 := (blk_cell B2.out 3).trans rfl
   have c2_4 := (blk_cell B2.out 4).trans rfl
   have c3_0 := (blk_cell B3.out 0).trans rfl
   have c3_1 := (blk_cell B3.out 1).trans rfl
   have c3_2 := (blk_cell B3.out 2).trans rfl
   have c3_3 := (blk_cell B3.out 3).trans rfl
   have c3_4 := (blk_cell B3.out 4).trans rfl
   go_wp2_with fail
   go_ret
   exact ⟨by rw [HF.out]; rfl, HB.out⟩
 | true =>
 cases q4 : ((x.f4.length : Int) == 0) with
 | false =>
   rw [q4] at HF
   have nq4 : ((x.f4.length : Int) != 0) = true := by rw [bne, q4]; rfl
   have c2_0 := (blk_cell B2.out 0).trans rfl
   have c2_1 := (blk_cell B2.out 1).trans rfl
   have c2_2 := (blk_cell B2.out 2).trans rfl
   have c2_3 := (blk_cell B2.out 3).trans rfl
   have c2_4 := (blk_cell B2.out 4).trans rfl
   have c3_0 := (blk_cell B3.out 0).trans rfl
   have c3_1 := (blk_cell B3.out 1).trans rfl
   have c3_2 := (blk_cell B3.out 2).trans rfl
   have c3_3 := (blk_cell B3.out 3).trans rfl
   have c3_4 := (blk_cell B3.out 4).trans rfl
   go_wp2_with fail
   go_ret
   exact ⟨by rw [HF.out]; rfl, HB.out⟩
 | true =>
 rw [q4] at HF
 have nq4 : ((x.f4.length : Int) != 0) = false := by rw [bne, q4]; rfl
 have hz : x.f4.length = 0 := by have := of_beq_eq_true' q4; omega
 have c2_0 := (blk_cell B2.out 0).trans rfl
 have c2_1 := (blk_cell B2.out 1).trans rfl
 have c2_2 := (blk_cell B2.out 2).trans rfl
 have c2_3 := (blk_cell B2.out 3).trans rfl
 have c2_4 := (blk_cell B2.out 4).trans rfl
 have c3_0 := (blk_cell B3.out 0).trans rfl
 have c3_1 := (blk_cell B3.out 1).trans rfl
 have c3_2 := (blk_cell B3.out 2).trans rfl
 have c3_3 := (blk_cell B3.out 3).trans rfl
 have c3_4 := (blk_cell B3.out 4).trans rfl
 rw [hz] at c2_4
 go_wp2_with fail
 refine wp_loop_rounds 1 ?_
 rw [rounds_succ]
 go_wp2_with fail
 go_ret
 exact ⟨by rw [HF.out]; rfl, HB.out⟩
def reqB (made : Bool) (q : S44) : Bool := allB q.f0 1 6 (nameB made) && rexprB made q.f1
set_option maxHeartbeats 4000000 in
theorem req_calls (made : Bool) (q : S44) (w : World) (csx : List Value) (hK : k44.K w q csx) : Calls Tryz.prog 62 #[.agg csx.toArray, .bool made] w fun e w' => e = .returned (.bool (reqB made q)) ∧ Below w.heap.size w w' := by
 obtain ⟨A0, c0, A4, c4, A5, c5, rfl, l0, g0, l4, g4, l5, g5⟩ := k44_open hK
 clear hK
 have h1 := fun (W : World) (hB : Below w.heap.size w W) => rnames_calls made A0 c0 q.f0 1 6 W (Kd.C_below g0 hB) l0
 have h2 := fun (W : World) (hB : Below w.heap.size w W) => rexpr_calls made q.f1 W _ (k42_mk W q.f1 l4 (Kd.C_below g4 hB) l5 (Kd.C_below g5 hB))
 clear l0 g0 l4 g4 l5 g5
 have HB := Aside0.mk (Below.refl w.heap.size w)
 have hu1 := Tryz.underlying44
 have HF := Aside0.mk (show reqB made q = (allB q.f0 1 6 (nameB made) && rexprB made q.f1) from rfl)
 generalize allB q.f0 1 6 (nameB made) = a at h1 HF
 generalize rexprB made q.f1 = b at h2 HF
 go_enter Tryz.func62, Tryz.ntmps62
 go_wp2_with ((with_reducible refine gate_dst (N := 2) rfl ?_); refine box_event ?hg (N := 2) ?hd (cs := #[.slice A0 (q.f0).length c0, .int .i64 q.f1.f0, .string q.f1.f1, .int .i64 q.f1.f2, .slice A4 (q.f1.f3).length c4, .slice A5 (q.f1.f4).length c5]) (t := 44) ?hr ?_; (case hd => rfl); (case hg => rfl); (case hr => first | (go_simp; done) | (go_simp; rfl)); intro g2 hg_ w_ hbox hb; have B2 := Aside0.mk hbox; have LB2 := Aside0.mk ((by rw [hg_]; exact below_size HB.out) : w.heap.size ≤ g2); replace HB := Aside0.mk (below_step HB.out hb); clear hb hbox hg_; have c2_0 := (blk_cell B2.out 0).trans rfl; have c2_1 := (blk_cell B2.out 1).trans rfl; have c2_2 := (blk_cell B2.out 2).trans rfl; have c2_3 := (blk_cell B2.out 3).trans rfl; have c2_4 := (blk_cell B2.out 4).trans rfl; have c2_5 := (blk_cell B2.out 5).trans rfl)
 refine (h1 _ HB.out).mono ?_
 rintro e_ w5 ⟨rfl, hb⟩
 replace B2 := Aside0.mk (below_blk B2.out hb)
 replace HB := Aside0.mk (below_step HB.out hb)
 clear hb h1 c2_0 c2_1 c2_2 c2_3 c2_4 c2_5
 cases a with
 | false =>
   clear h2
   go_wp2_with fail
   go_ret
   exact ⟨by rw [HF.out]; rfl, HB.out⟩
 | true =>
 have c2_0 := (blk_cell B2.out 0).trans rfl
 have c2_1 := (blk_cell B2.out 1).trans rfl
 have c2_2 := (blk_cell B2.out 2).trans rfl
 have c2_3 := (blk_cell B2.out 3).trans rfl
 have c2_4 := (blk_cell B2.out 4).trans rfl
 have c2_5 := (blk_cell B2.out 5).trans rfl
 go_wp2_with fail
 refine (h2 _ HB.out).mono ?_
 rintro e_ w6 ⟨rfl, hb⟩
 go_wp2_with fail
 go_ret
 exact ⟨by rw [HF.out]; rfl, below_step HB.out hb⟩
end Go.Proofs.YtggfnbnochmkdaaGreat
