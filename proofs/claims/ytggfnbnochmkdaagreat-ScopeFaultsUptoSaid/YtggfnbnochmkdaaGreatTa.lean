/- JOINED of 3 texts: Package tree: what may stand in a field: bare, name, con; all of a list; one of some texts. Package tree: one of some texts; what an op asks for. Package tree: what an op asks for, at any op; which expressions may be. -/
import Derived.Test.YtggfnbnochmkdaaGreatIx
import Derived.Test.YtggfnbnochmkdaaGreatScA
namespace Go.Proofs.YtggfnbnochmkdaaGreat
open Go Go.RowKit Go.Lib Go.Proofs.YtggfnbnochmkdaaGreatW.PrintWords Go.Proofs.YtggfnbnochmkdaaGreat.PScope
set_option maxRecDepth 100000
set_option linter.unusedSimpArgs false
set_option linter.unusedVariables false
def bareB (made : Bool) (s : ByteArray) : ByteArray := (tree_field_bare.f made s).getD s
theorem bare_some (made : Bool) (s : ByteArray) : tree_field_bare.f made s = some (bareB made s) := by
 have h1 : ∃ r, stringslite_HasPrefix.f s (⟨#[95]⟩ : ByteArray) = some r := by
   unfold stringslite_HasPrefix.f
   have : ((⟨#[95]⟩ : ByteArray).size : Int) = 1 := rfl
   rw [this]
   split
   · first | exact ⟨_, rfl⟩ | (rw [if_pos (by omega), if_pos (by omega)]; exact ⟨_, rfl⟩)
   · exact ⟨_, rfl⟩
 obtain ⟨r, h1⟩ := h1
 have h2 : ∃ r, stringslite_CutPrefix.f s (⟨#[95]⟩ : ByteArray) = some r := by
   unfold stringslite_CutPrefix.f
   rw [h1]
   simp only [Option.bind_some]
   cases r with
   | false => exact ⟨_, rfl⟩
   | true =>
     rw [if_pos rfl, if_pos (show (0 : Int) ≤ ((⟨#[95]⟩ : ByteArray).size : Int) by omega), if_pos]
     · exact ⟨_, rfl⟩
     · unfold stringslite_HasPrefix.f at h1
       split at h1
       · assumption
       · simp at h1
 obtain ⟨q, h2⟩ := h2
 have h3 : ∃ r, tree_field_bare.f made s = some r := by
   unfold tree_field_bare.f strings_CutPrefix.f
   rw [h2]
   simp only [Option.bind_some]
   split
   · split
     · split <;> exact ⟨_, rfl⟩
     · exact ⟨_, rfl⟩
   · exact ⟨_, rfl⟩
 obtain ⟨u, h3⟩ := h3
 rw [bareB, h3]; rfl
def nameB (made : Bool) (s : ByteArray) : Bool := isNameB (bareB made s)
def conB (made : Bool) (s : ByteArray) : Bool := isConB (bareB made s)
theorem bare_calls (made : Bool) (s : ByteArray) (w : World) :
   Calls Tryz.prog 66 #[.agg #[.bool made], .string s] w fun e w' => e = .returned (.string (bareB made s)) ∧ Below w.heap.size w w' :=
 tree_field_bare.calls made s _ w (bare_some made s)
theorem name_calls (made : Bool) (s : ByteArray) (w : World) :
   Calls Tryz.prog 45 #[.agg #[.bool made], .string s] w fun e w' => e = .returned (.bool (nameB made s)) ∧ Below w.heap.size w w' := by
 have h1 := fun W => bare_calls made s W
 have h2 := fun W => isName_calls (bareB made s) W
 unfold nameB
 generalize isNameB (bareB made s) = q at h2
 generalize bareB made s = t at h1 h2
 have hu := Tryz.underlying71
 go_enter Tryz.func45, Tryz.ntmps45
 go_wp2_with fail
 refine (h1 _).mono ?_; rintro e w1 ⟨rfl, hb1⟩
 go_wp2_with fail
 refine (h2 _).mono ?_; rintro e w2 ⟨rfl, hb2⟩
 go_wp2_with fail
 go_ret
 exact ⟨rfl, below_step (below_step (below_alloc (Below.refl _ _) _) hb1) hb2⟩
theorem con_calls (made : Bool) (s : ByteArray) (w : World) :
   Calls Tryz.prog 47 #[.agg #[.bool made], .string s] w fun e w' => e = .returned (.bool (conB made s)) ∧ Below w.heap.size w w' := by
 have h1 := fun W => bare_calls made s W
 have h2 := fun W => isCon_calls (bareB made s) W
 unfold conB
 generalize isConB (bareB made s) = q at h2
 generalize bareB made s = t at h1 h2
 have hu := Tryz.underlying71
 go_enter Tryz.func47, Tryz.ntmps47
 go_wp2_with fail
 refine (h1 _).mono ?_; rintro e w1 ⟨rfl, hb1⟩
 go_wp2_with fail
 refine (h2 _).mono ?_; rintro e w2 ⟨rfl, ⟨n2, rfl⟩⟩
 go_wp2_with fail
 go_ret
 exact ⟨rfl, pw_below_drewN (below_step (below_alloc (Below.refl _ _) _) hb1) n2⟩
def StrFn (w0 : World) (fv : Value) (q : ByteArray → Bool) : Prop :=
 ∃ g pre lb, fv = .func (.func g) pre lb ∧ (∀ args w, (callFunc g args).run Tryz.prog w = .ok (.enter g args) w) ∧
   ∀ W s, Below w0.heap.size w0 W → Calls Tryz.prog g (pre ++ #[.string s] ++ lb) W fun e w' => e = .returned (.bool (q s)) ∧ Below W.heap.size W w'
theorem StrFn.later {w0 w1 : World} {fv : Value} {q : ByteArray → Bool} (h : StrFn w0 fv q) (hb : Below w0.heap.size w0 w1) : StrFn w1 fv q := by
 obtain ⟨g, pre, lb, e, eg, hc⟩ := h
 exact ⟨g, pre, lb, e, eg, fun W s hW => hc W s (below_step hb hW)⟩
theorem name_fn (w0 : World) (made : Bool) : StrFn w0 (.func (.func 45) #[.agg #[.bool made]] #[]) (nameB made) :=
 ⟨_, _, _, rfl, enters_of Tryz.func45 (by kernel_rfl) rfl, fun W s _ => name_calls made s W⟩
theorem con_fn (w0 : World) (made : Bool) : StrFn w0 (.func (.func 47) #[.agg #[.bool made]] #[]) (conB made) :=
 ⟨_, _, _, rfl, enters_of Tryz.func47 (by kernel_rfl) rfl, fun W s _ => con_calls made s W⟩
def StrFnD (w0 : World) (fv : Value) (D : ByteArray → Prop) (q : ByteArray → Bool) : Prop :=
 ∃ g pre lb, fv = .func (.func g) pre lb ∧ (∀ args w, (callFunc g args).run Tryz.prog w = .ok (.enter g args) w) ∧
   ∀ W s, D s → Below w0.heap.size w0 W → Calls Tryz.prog g (pre ++ #[.string s] ++ lb) W fun e w' => e = .returned (.bool (q s)) ∧ Below W.heap.size W w'
theorem StrFn.toD {w0 : World} {fv : Value} {q : ByteArray → Bool} (h : StrFn w0 fv q) (D : ByteArray → Prop) : StrFnD w0 fv D q := by
 obtain ⟨g, pre, lb, e, eg, hc⟩ := h
 exact ⟨g, pre, lb, e, eg, fun W s _ hW => hc W s hW⟩
theorem all1_calls (w0 : World) (fv : Value) (D : ByteArray → Prop) (q : ByteArray → Bool) (hf : StrFnD w0 fv D q) (gb : Nat) (s : ByteArray) (hs : D s) (W : World) (hW : Below w0.heap.size w0 W) (hb : W.heap[gb]? = some (.cells #[fv] 94 (0, 0))) :
   Calls Tryz.prog 68 #[.string s, .pointer (some ⟨gb, 0, none⟩)] W fun e w' => e = .returned (.bool (!q s)) ∧ Below W.heap.size W w' := by
 obtain ⟨g, pre, lb, rfl, eg, hc⟩ := hf
 have hcall := hc W s hs hW
 have hx := (blk_cell hb 0).trans rfl
 clear hc hb
 generalize q s = b at hcall
 go_enter Tryz.func68, Tryz.ntmps68
 go_wp2_with fail
 refine hcall.mono ?_; rintro e w1 ⟨rfl, hb1⟩
 go_wp2_with fail
 go_ret
 exact ⟨rfl, hb1⟩
theorem all1_eg : ∀ args w, (callFunc 68 args).run Tryz.prog w = .ok (.enter 68 args) w := enters_of Tryz.func68 (by kernel_rfl) rfl
def allB (l : List ByteArray) (a b : Int) (q : ByteArray → Bool) : Bool := decide (a ≤ l.length) && decide ((l.length : Int) ≤ b) && !l.any (fun s => !q s)
theorem all_callsD (w0 : World) (fv : Value) (D : ByteArray → Prop) (q : ByteArray → Bool) (hf : StrFnD w0 fv D q) (A : Option Addr) (c : Nat) (l : List ByteArray) (hC : Kd.C Kd.string w0 A l.length l) (a b : Int) (hD : (l.length : Int) ≤ b → ∀ s, s ∈ l → D s) (w : World) (hw : Below w0.heap.size w0 w) :
   Calls Tryz.prog 46 #[.slice A l.length c, .int .i64 a, .int .i64 b, fv] w fun e w' => e = .returned (.bool (allB l a b q)) ∧ Below w.heap.size w w' := by
 have hcall : (l.length : Int) ≤ b → ∀ (gb : Nat) (W : World), Below w0.heap.size w0 W → W.heap[gb]? = some (.cells #[fv] 94 (0, 0)) →
     Calls Tryz.prog 67 #[.slice A l.length c, .func (.func 68) #[] #[.pointer (some ⟨gb, 0, none⟩)]] W fun e w' => e = .returned (.bool (l.any (fun s => !q s))) ∧ Below W.heap.size W w' := by
   intro hlen gb W hW hb
   refine (ct_string _ _ all1_eg w0 W A c l hC (fun i => !q (l.getD i (⟨#[]⟩ : ByteArray))) (fun _ W' => Below W.heap.size W W') (fun _ W' => Below W.heap.size W W') (fun _ W' h => below_step hW h) ?_ (Below.refl _ _)).mono ?_
   · intro i W' hi hI
     refine (all1_calls w0 fv D q hf gb _ (hD hlen _ (by rw [List.getD_eq_getElem?_getD, List.getElem?_eq_getElem hi]; exact List.getElem_mem hi)) W' (below_step hW hI) (below_blk hb hI)).mono ?_
     rintro e w' ⟨rfl, hb'⟩
     exact ⟨rfl, fun _ => below_step hI hb', fun _ => below_step hI hb'⟩
   · intro e w' h
     exact CtPost.any (q := fun s => !q s) (z := (⟨#[]⟩ : ByteArray)) (I := fun W' => Below W.heap.size W W') h
 obtain ⟨g, pre, lb, rfl, eg, _⟩ := hf
 have Hw := Aside0.mk hw
 clear hw hC hD
 unfold allB
 by_cases c1 : a ≤ l.length
 · have d1 : decide ((l.length : Int) ≥ a) = true := decide_eq_true c1
   have d1' : decide (a ≤ (l.length : Int)) = true := decide_eq_true c1
   rw [d1', Bool.true_and]
   by_cases c2 : (l.length : Int) ≤ b
   · have d2 : decide ((l.length : Int) ≤ b) = true := decide_eq_true c2
     replace hcall := hcall c2
     rw [d2, Bool.true_and]
     generalize l.any (fun s => !q s) = r at hcall
     go_enter Tryz.func46, Tryz.ntmps46
     go_wp2_with fail
     refine (hcall _ _ (below_alloc Hw.out _) (blk_new _ _)).mono ?_; rintro e w1 ⟨rfl, hb1⟩
     go_wp2_with fail
     go_ret
     exact ⟨rfl, below_step (below_alloc (Below.refl _ _) _) hb1⟩
   · have d2 : decide ((l.length : Int) ≤ b) = false := decide_eq_false c2
     rw [d2, Bool.false_and]
     clear hcall
     go_enter Tryz.func46, Tryz.ntmps46
     go_wp2_with fail
     go_ret
     exact ⟨rfl, below_alloc (Below.refl _ _) _⟩
 · have d1 : decide ((l.length : Int) ≥ a) = false := decide_eq_false c1
   have d1' : decide (a ≤ (l.length : Int)) = false := decide_eq_false c1
   rw [d1', Bool.false_and, Bool.false_and]
   clear hcall
   go_enter Tryz.func46, Tryz.ntmps46
   go_wp2_with fail
   go_ret
   exact ⟨rfl, below_alloc (Below.refl _ _) _⟩
theorem all_calls (w0 : World) (fv : Value) (q : ByteArray → Bool) (hf : StrFn w0 fv q) (A : Option Addr) (c : Nat) (l : List ByteArray) (hC : Kd.C Kd.string w0 A l.length l) (a b : Int) (w : World) (hw : Below w0.heap.size w0 w) :
   Calls Tryz.prog 46 #[.slice A l.length c, .int .i64 a, .int .i64 b, fv] w fun e w' => e = .returned (.bool (allB l a b q)) ∧ Below w.heap.size w w' :=
 all_callsD w0 fv (fun _ => True) q (hf.toD _) A c l hC a b (fun _ _ _ => trivial) w hw
def inB (l : List ByteArray) (s : ByteArray) : Bool := l.any fun x => decide (x = s)
theorem index_tells' (l : List ByteArray) (a : ByteArray) (hl : l.length ≤ 9223372036854775807) (d : Nat) : ∀ (k i : Nat), i ≤ l.length → l.length - i = d → d < k →
   ∃ r, slices_Index_string_string.l0 k l a (l.length : Int) (i : Int) = some r ∧ (decide (r ≥ 0) = (l.drop i).any fun x => decide (x = a)) := by
 induction d with
 | zero =>
   intro k i hi hd hk
   obtain ⟨k, rfl⟩ : ∃ m, k = m + 1 := ⟨k - 1, by omega⟩
   obtain rfl : i = l.length := by omega
   refine ⟨-1, ?_, by simp⟩
   simp only [slices_Index_string_string.l0]
   rw [if_neg (by omega)]
 | succ d ih =>
   intro k i hi hd hk
   obtain ⟨k, rfl⟩ : ∃ m, k = m + 1 := ⟨k - 1, by omega⟩
   have hlt : i < l.length := by omega
   have hdr : l.drop i = l[i] :: l.drop (i + 1) := List.drop_eq_getElem_cons hlt
   have hrd : rdOf ByteArray.empty l (i : Int) = l[i] := by simp [rdOf, hlt]
   simp only [slices_Index_string_string.l0]
   rw [if_pos (by omega), if_pos (by omega), if_pos (by omega), hrd]
   by_cases e : a.toList = l[i].toList
   · rw [if_pos e]
     refine ⟨_, rfl, ?_⟩
     rw [hdr]
     have : l[i] = a := (toList_inj e).symm
     simp [this]
   · rw [if_neg e]
     obtain ⟨r, hr, hany⟩ := ih k (i + 1) (by omega) (by omega) (by omega)
     refine ⟨r, ?_, ?_⟩
     · rw [wrap_add (by omega) (by omega)]; exact_mod_cast hr
     · have : ¬ l[i] = a := by rintro rfl; exact e rfl
       rw [hany, hdr, List.any_cons, decide_eq_false this, Bool.false_or]
theorem contains_calls (A : Option Addr) (c : Nat) (l : List ByteArray) (s : ByteArray) (w : World) (hC : Kd.C Kd.string w A l.length l) (hc : l.length ≤ c) :
   Calls Tryz.prog 77 #[.slice A l.length c, .string s] w fun e w' => e = .returned (.bool (inB l s)) ∧ Below w.heap.size w w' := by
 have hm := hC.2.1
 obtain ⟨r, hr, hany⟩ := index_tells' l s (by omega) l.length (l.length + 1) 0 (by omega) (by omega) (by omega)
 refine (slices_Contains_string_string.calls (l.length + 1) A c l s (inB l s) w hC hc ?_).mono (fun _ _ h => ⟨h.1, h.2.below⟩)
 unfold slices_Contains_string_string.f slices_Index_string_string.f
 rw [show ((0 : Nat) : Int) = 0 from rfl] at hr
 rw [hr]
 simp only [Option.bind_some]
 rw [hany]; rfl
theorem one1_calls (A : Option Addr) (c : Nat) (l : List ByteArray) (gb : Nat) (s : ByteArray) (w : World) (hC : Kd.C Kd.string w A l.length l) (hc : l.length ≤ c) (hb : w.heap[gb]? = some (.cells #[.slice A l.length c] 32 (0, 0))) :
   Calls Tryz.prog 126 #[.string s, .pointer (some ⟨gb, 0, none⟩)] w fun e w' => e = .returned (.bool (inB l s)) ∧ Below w.heap.size w w' := by
 have hcall := contains_calls A c l s w hC hc
 have hx := (blk_cell hb 0).trans rfl
 clear hC hb
 generalize inB l s = b at hcall
 go_enter Tryz.func126, Tryz.ntmps126
 go_wp2_with fail
 refine hcall.mono ?_; rintro e w1 ⟨rfl, hb1⟩
 go_wp2_with fail
 go_ret
 exact ⟨rfl, hb1⟩
theorem one1_eg : ∀ args w, (callFunc 126 args).run Tryz.prog w = .ok (.enter 126 args) w := enters_of Tryz.func126 (by kernel_rfl) rfl
theorem one_fn (A : Option Addr) (c : Nat) (l : List ByteArray) (gb : Nat) (W : World) (hC : Kd.C Kd.string W A l.length l) (hc : l.length ≤ c) (hb : W.heap[gb]? = some (.cells #[.slice A l.length c] 32 (0, 0))) :
   StrFn W (.func (.func 126) #[] #[.pointer (some ⟨gb, 0, none⟩)]) (inB l) :=
 ⟨_, _, _, rfl, one1_eg, fun W' s hW => one1_calls A c l gb s W' (Kd.C_below hC hW) hc (below_blk hb hW)⟩
def OnePost (A : Option Addr) (c : Nat) (l : List ByteArray) (w : World) (e : Ending) (w' : World) : Prop := ∃ gb, e = .returned (.func (.func 126) #[] #[.pointer (some ⟨gb, 0, none⟩)]) ∧ w.heap.size ≤ gb ∧ w'.heap[gb]? = some (.cells #[.slice A l.length c] 32 (0, 0)) ∧ Below w.heap.size w w'
theorem one_calls (A : Option Addr) (c : Nat) (l : List ByteArray) (w : World) :
   Calls Tryz.prog 124 #[.slice A l.length c] w (OnePost A c l w) := by
 go_enter Tryz.func124, Tryz.ntmps124
 go_wp2_with fail
 go_ret
 exact ⟨w.heap.size, rfl, Nat.le_refl _, blk_new _ _, below_alloc (Below.refl _ _) _⟩
def IntFn (w0 : World) (fv : Value) (q : Int → Bool) : Prop :=
 ∃ g, fv = .func (.func g) #[] #[] ∧ (∀ args w, (callFunc g args).run Tryz.prog w = .ok (.enter g args) w) ∧
   ∀ W x, Calls Tryz.prog g #[.int .i64 x] W fun e w' => e = .returned (.bool (q x)) ∧ Below W.heap.size W w'
def posB (x : Int) : Bool := decide (0 ≤ x)
def bitB (x : Int) : Bool := bits BinOp.or IntKind.i64 x 1 == 1
theorem of1_calls (x : Int) (w : World) : Calls Tryz.prog 122 #[.int .i64 x] w fun e w' => e = .returned (.bool (posB x)) ∧ Below w.heap.size w w' := by
 unfold posB
 go_enter Tryz.func122, Tryz.ntmps122
 go_wp2_with fail
 go_ret
 exact ⟨rfl, Below.refl _ _⟩
theorem of2_calls (x : Int) (w : World) : Calls Tryz.prog 123 #[.int .i64 x] w fun e w' => e = .returned (.bool (bitB x)) ∧ Below w.heap.size w w' := by
 go_enter Tryz.func123, Tryz.ntmps123
 go_wp2_with fail
 go_ret
 exact ⟨rfl, Below.refl _ _⟩
theorem pos_fn (w0 : World) : IntFn w0 (.func (.func 122) #[] #[]) posB := ⟨_, rfl, enters_of Tryz.func122 (by kernel_rfl) rfl, fun W x => of1_calls x W⟩
theorem bit_fn (w0 : World) : IntFn w0 (.func (.func 123) #[] #[]) bitB := ⟨_, rfl, enters_of Tryz.func123 (by kernel_rfl) rfl, fun W x => of2_calls x W⟩
structure Wants where
 name : Option (ByteArray → Bool)
 n : Option (Int → Bool)
 cons : Option (ByteArray → Bool)
 least : Int
 most : Int
 kids : Int
 many : Int
 same : Bool
def OptStr (w0 : World) (v : Value) : Option (ByteArray → Bool) → Prop
 | none => v = .nilFunc
 | some q => StrFn w0 v q
def OptInt (w0 : World) (v : Value) : Option (Int → Bool) → Prop
 | none => v = .nilFunc
 | some q => IntFn w0 v q
def unOps : List ByteArray := [⟨#[110, 111, 116]⟩, ⟨#[45]⟩]
def binOps : List ByteArray := [⟨#[43]⟩, ⟨#[45]⟩, ⟨#[42]⟩, ⟨#[47]⟩, ⟨#[37]⟩, ⟨#[60]⟩, ⟨#[60, 61]⟩, ⟨#[61]⟩, ⟨#[60, 62]⟩, ⟨#[97, 110, 100]⟩, ⟨#[111, 114]⟩]
def wNone : Wants := ⟨none, none, none, 0, 0, 0, 0, false⟩
def wantsOf (made : Bool) (op : Int) : Wants :=
 if op = 1 then { wNone with n := some posB } else if op = 2 then { wNone with n := some bitB } else if op = 3 then { wNone with name := some (conB made) } else if op = 4 then { wNone with name := some (nameB made) }
 else if op = 5 then { wNone with name := some (inB unOps), kids := 1, many := 1 } else if op = 6 then { wNone with name := some (inB binOps), kids := 2, many := 2 } else if op = 7 then { wNone with kids := 3, many := 3 }
 else if op = 8 then { wNone with kids := 2, many := 2 } else if op = 10 then { wNone with kids := 2, many := 2 } else if op = 15 then { wNone with kids := 2, many := 2 } else if op = 9 then { wNone with kids := 1, many := 1 }
 else if op = 11 then ⟨some (nameB made), none, some (conB made), 1, 1, 1, 1, false⟩ else if op = 12 then ⟨some (nameB made), none, some (conB made), 1, 8, 1, 8, true⟩ else if op = 13 then ⟨some (nameB made), none, some (conB made), 1, 8, 1, 8, true⟩
 else if op = 14 then ⟨some (nameB made), none, some (nameB made), 0, 6, 1, 6, false⟩ else wNone
def okOp (op : Int) : Bool := decide (1 ≤ op) && decide (op ≤ 15)
theorem heap_size_alloc' (w : World) (o : Obj) : (w.alloc o).heap.size = w.heap.size + 1 := by simp
theorem blk_new2 (w : World) (o1 o2 : Obj) : ((w.alloc o1).alloc o2).heap[w.heap.size + 1]? = some o2 := by
 have := blk_new (w.alloc o1) o2
 simpa using this
theorem blk_new3 (w : World) (o1 o2 o3 : Obj) : (((w.alloc o1).alloc o2).alloc o3).heap[w.heap.size + 2]? = some o3 := by
 have := blk_new ((w.alloc o1).alloc o2) o3
 simpa using this
theorem lit_strs {W : World} {g : Nat} {e : TypeId} {cs : Array Value} (l : List ByteArray) (h : W.heap[g]? = some (.cells cs e (0, 0))) (hcs : cs = (l.map Value.string).toArray) (hl : l.length ≤ 9223372036854775807) : Kd.C Kd.string W (some ⟨g, 0, none⟩) l.length l := by
 refine ⟨rfl, hl, fun _ => ⟨_, rfl, fun j p hj => ⟨[.string p], rfl, rfl, fun i u hu => ?_⟩⟩⟩
 cases i with
 | succ i => simp at hu
 | zero =>
   simp at hu
   subst hu
   rw [add_plain, blk_cell h, hcs]
   simp [hj, Kd.string, Kd.scalar]
def OfPost (u : Wants) (ok : Bool) (w : World) (e : Ending) (w' : World) : Prop :=
 ∃ v0 v1 v2, e = .returned (.tuple #[.agg #[v0, v1, v2, .int .i64 u.least, .int .i64 u.most, .int .i64 u.kids, .int .i64 u.many, .bool u.same], .bool ok]) ∧ OptStr w' v0 u.name ∧ OptInt w' v1 u.n ∧ OptStr w' v2 u.cons ∧ Below w.heap.size w w'
theorem of_1 (made : Bool) (w : World) : Calls Tryz.prog 118 #[.agg #[.bool made], .int .i64 1] w (OfPost (wantsOf made 1) true w) := by
 have hu := Tryz.underlying71
 go_enter Tryz.func118, Tryz.ntmps118
 go_wp2_with ((with_reducible refine gate_store (t := 141) (p := 4) rfl ?_); refine store_whole rfl rfl 141 _ _ rfl (w.heap.size + 1) _ 141 rfl (blk_new2 _ _ _) _ rfl rfl rfl (by simp [Value.oneCell']) ?_; intro w2 hb2 hg2; have HB := Aside0.mk hb2; have HG := Aside0.mk hg2; clear hb2 hg2)
 refine bodyPost_ret (results_ct rfl _ _ (w.heap.size + 1) 141 _ (0, 0) _ rfl HB.out Tryz.underlying141 rfl rfl) rfl ?_
 exact ⟨_, _, _, rfl, rfl, pos_fn w2, rfl, ((Below.refl _ _).alloc (Nat.le_refl _) _ |>.alloc (by simp) _).grown HG.out (by simp; omega) (fun k hk => by cases hk; omega)⟩
theorem of_2 (made : Bool) (w : World) : Calls Tryz.prog 118 #[.agg #[.bool made], .int .i64 2] w (OfPost (wantsOf made 2) true w) := by
 have hu := Tryz.underlying71
 go_enter Tryz.func118, Tryz.ntmps118
 go_wp2_with ((with_reducible refine gate_store (t := 141) (p := 4) rfl ?_); refine store_whole rfl rfl 141 _ _ rfl (w.heap.size + 1) _ 141 rfl (blk_new2 _ _ _) _ rfl rfl rfl (by simp [Value.oneCell']) ?_; intro w2 hb2 hg2; have HB := Aside0.mk hb2; have HG := Aside0.mk hg2; clear hb2 hg2)
 refine bodyPost_ret (results_ct rfl _ _ (w.heap.size + 1) 141 _ (0, 0) _ rfl HB.out Tryz.underlying141 rfl rfl) rfl ?_
 exact ⟨_, _, _, rfl, rfl, bit_fn w2, rfl, ((Below.refl _ _).alloc (Nat.le_refl _) _ |>.alloc (by simp) _).grown HG.out (by simp; omega) (fun k hk => by cases hk; omega)⟩
theorem of_3 (made : Bool) (w : World) : Calls Tryz.prog 118 #[.agg #[.bool made], .int .i64 3] w (OfPost (wantsOf made 3) true w) := by
 have hu := Tryz.underlying71
 go_enter Tryz.func118, Tryz.ntmps118
 go_wp2_with ((with_reducible refine gate_store (t := 141) (p := 4) rfl ?_); refine store_whole rfl rfl 141 _ _ rfl (w.heap.size + 1) _ 141 rfl (blk_new2 _ _ _) _ rfl rfl rfl (by simp [Value.oneCell']) ?_; intro w2 hb2 hg2; have HB := Aside0.mk hb2; have HG := Aside0.mk hg2; clear hb2 hg2)
 refine bodyPost_ret (results_ct rfl _ _ (w.heap.size + 1) 141 _ (0, 0) _ rfl HB.out Tryz.underlying141 rfl rfl) rfl ?_
 exact ⟨_, _, _, rfl, con_fn w2 made, rfl, rfl, ((Below.refl _ _).alloc (Nat.le_refl _) _ |>.alloc (by simp) _).grown HG.out (by simp; omega) (fun k hk => by cases hk; omega)⟩
theorem of_4 (made : Bool) (w : World) : Calls Tryz.prog 118 #[.agg #[.bool made], .int .i64 4] w (OfPost (wantsOf made 4) true w) := by
 have hu := Tryz.underlying71
 go_enter Tryz.func118, Tryz.ntmps118
 go_wp2_with ((with_reducible refine gate_store (t := 141) (p := 4) rfl ?_); refine store_whole rfl rfl 141 _ _ rfl (w.heap.size + 1) _ 141 rfl (blk_new2 _ _ _) _ rfl rfl rfl (by simp [Value.oneCell']) ?_; intro w2 hb2 hg2; have HB := Aside0.mk hb2; have HG := Aside0.mk hg2; clear hb2 hg2)
 refine bodyPost_ret (results_ct rfl _ _ (w.heap.size + 1) 141 _ (0, 0) _ rfl HB.out Tryz.underlying141 rfl rfl) rfl ?_
 exact ⟨_, _, _, rfl, name_fn w2 made, rfl, rfl, ((Below.refl _ _).alloc (Nat.le_refl _) _ |>.alloc (by simp) _).grown HG.out (by simp; omega) (fun k hk => by cases hk; omega)⟩
theorem of_5 (made : Bool) (w : World) : Calls Tryz.prog 118 #[.agg #[.bool made], .int .i64 5] w (OfPost (wantsOf made 5) true w) := by
 have hu := Tryz.underlying71
 go_enter Tryz.func118, Tryz.ntmps118
 go_wp2_with fail
 refine (one_calls _ _ unOps _).mono ?_
 rintro e w1 ⟨gb, rfl, hle, hgb, hb1⟩
 have HL := Aside0.mk hle
 have HF := Aside0.mk hgb
 have HB1 := Aside0.mk hb1
 clear hle hgb hb1
 go_wp2_with ((with_reducible refine gate_store (t := 141) (p := 4) rfl ?_); refine store_whole rfl rfl 141 _ _ rfl (w.heap.size + 1) _ 141 rfl (below_blk (blk_alloc (blk_new2 _ _ _) _) HB1.out) _ rfl rfl rfl (by simp [Value.oneCell']) ?_; intro w2 hb2 hg2; have HB := Aside0.mk hb2; have HG := Aside0.mk hg2; clear hb2 hg2)
 refine bodyPost_ret (results_ct rfl _ _ (w.heap.size + 1) 141 _ (0, 0) _ rfl HB.out Tryz.underlying141 rfl rfl) rfl ?_
 have hL := HL.out
 have hsz := HB1.out.size
 simp only [heap_size_alloc'] at hL hsz
 have hgb : w2.heap[gb]? = some (.cells #[.slice (some ⟨w.heap.size + 2, 0, none⟩) unOps.length unOps.length] 32 (0, 0)) := (HG.out.block gb (blk_lt HF.out) (by intro e; injection e with e; omega)).trans HF.out
 have hsl : w2.heap[w.heap.size + 2]? = some (.cells (unOps.map Value.string).toArray 9 (0, 0)) := (HG.out.block _ (by omega) (by intro e; injection e with e; omega)).trans (below_blk (blk_new3 _ _ _ _) HB1.out)
 exact ⟨_, _, _, rfl, one_fn _ _ unOps gb w2 (lit_strs unOps hsl rfl (by decide)) (Nat.le_refl _) hgb, rfl, rfl, ((((Below.refl _ _).alloc (Nat.le_refl _) _ |>.alloc (by simp) _).alloc (by simp; omega) _).trans (HB1.out.mono (by simp; omega))).grown HG.out (by omega) (fun k hk => by cases hk; omega)⟩
theorem of_6 (made : Bool) (w : World) : Calls Tryz.prog 118 #[.agg #[.bool made], .int .i64 6] w (OfPost (wantsOf made 6) true w) := by
 have hu := Tryz.underlying71
 go_enter Tryz.func118, Tryz.ntmps118
 go_wp2_with fail
 refine (one_calls _ _ binOps _).mono ?_
 rintro e w1 ⟨gb, rfl, hle, hgb, hb1⟩
 have HL := Aside0.mk hle
 have HF := Aside0.mk hgb
 have HB1 := Aside0.mk hb1
 clear hle hgb hb1
 go_wp2_with ((with_reducible refine gate_store (t := 141) (p := 4) rfl ?_); refine store_whole rfl rfl 141 _ _ rfl (w.heap.size + 1) _ 141 rfl (below_blk (blk_alloc (blk_new2 _ _ _) _) HB1.out) _ rfl rfl rfl (by simp [Value.oneCell']) ?_; intro w2 hb2 hg2; have HB := Aside0.mk hb2; have HG := Aside0.mk hg2; clear hb2 hg2)
 refine bodyPost_ret (results_ct rfl _ _ (w.heap.size + 1) 141 _ (0, 0) _ rfl HB.out Tryz.underlying141 rfl rfl) rfl ?_
 have hL := HL.out
 have hsz := HB1.out.size
 simp only [heap_size_alloc'] at hL hsz
 have hgb : w2.heap[gb]? = some (.cells #[.slice (some ⟨w.heap.size + 2, 0, none⟩) binOps.length binOps.length] 32 (0, 0)) := (HG.out.block gb (blk_lt HF.out) (by intro e; injection e with e; omega)).trans HF.out
 have hsl : w2.heap[w.heap.size + 2]? = some (.cells (binOps.map Value.string).toArray 9 (0, 0)) := (HG.out.block _ (by omega) (by intro e; injection e with e; omega)).trans (below_blk (blk_new3 _ _ _ _) HB1.out)
 exact ⟨_, _, _, rfl, one_fn _ _ binOps gb w2 (lit_strs binOps hsl rfl (by decide)) (Nat.le_refl _) hgb, rfl, rfl, ((((Below.refl _ _).alloc (Nat.le_refl _) _ |>.alloc (by simp) _).alloc (by simp; omega) _).trans (HB1.out.mono (by simp; omega))).grown HG.out (by omega) (fun k hk => by cases hk; omega)⟩
theorem of_7 (made : Bool) (w : World) : Calls Tryz.prog 118 #[.agg #[.bool made], .int .i64 7] w (OfPost (wantsOf made 7) true w) := by
 have hu := Tryz.underlying71
 go_enter Tryz.func118, Tryz.ntmps118
 go_wp2_with ((with_reducible refine gate_store (t := 141) (p := 4) rfl ?_); refine store_whole rfl rfl 141 _ _ rfl (w.heap.size + 1) _ 141 rfl (blk_new2 _ _ _) _ rfl rfl rfl (by simp [Value.oneCell']) ?_; intro w2 hb2 hg2; have HB := Aside0.mk hb2; have HG := Aside0.mk hg2; clear hb2 hg2)
 refine bodyPost_ret (results_ct rfl _ _ (w.heap.size + 1) 141 _ (0, 0) _ rfl HB.out Tryz.underlying141 rfl rfl) rfl ?_
 exact ⟨_, _, _, rfl, rfl, rfl, rfl, ((Below.refl _ _).alloc (Nat.le_refl _) _ |>.alloc (by simp) _).grown HG.out (by simp; omega) (fun k hk => by cases hk; omega)⟩
theorem of_8 (made : Bool) (w : World) : Calls Tryz.prog 118 #[.agg #[.bool made], .int .i64 8] w (OfPost (wantsOf made 8) true w) := by
 have hu := Tryz.underlying71
 go_enter Tryz.func118, Tryz.ntmps118
 go_wp2_with ((with_reducible refine gate_store (t := 141) (p := 4) rfl ?_); refine store_whole rfl rfl 141 _ _ rfl (w.heap.size + 1) _ 141 rfl (blk_new2 _ _ _) _ rfl rfl rfl (by simp [Value.oneCell']) ?_; intro w2 hb2 hg2; have HB := Aside0.mk hb2; have HG := Aside0.mk hg2; clear hb2 hg2)
 refine bodyPost_ret (results_ct rfl _ _ (w.heap.size + 1) 141 _ (0, 0) _ rfl HB.out Tryz.underlying141 rfl rfl) rfl ?_
 exact ⟨_, _, _, rfl, rfl, rfl, rfl, ((Below.refl _ _).alloc (Nat.le_refl _) _ |>.alloc (by simp) _).grown HG.out (by simp; omega) (fun k hk => by cases hk; omega)⟩
theorem of_9 (made : Bool) (w : World) : Calls Tryz.prog 118 #[.agg #[.bool made], .int .i64 9] w (OfPost (wantsOf made 9) true w) := by
 have hu := Tryz.underlying71
 go_enter Tryz.func118, Tryz.ntmps118
 go_wp2_with ((with_reducible refine gate_store (t := 141) (p := 4) rfl ?_); refine store_whole rfl rfl 141 _ _ rfl (w.heap.size + 1) _ 141 rfl (blk_new2 _ _ _) _ rfl rfl rfl (by simp [Value.oneCell']) ?_; intro w2 hb2 hg2; have HB := Aside0.mk hb2; have HG := Aside0.mk hg2; clear hb2 hg2)
 refine bodyPost_ret (results_ct rfl _ _ (w.heap.size + 1) 141 _ (0, 0) _ rfl HB.out Tryz.underlying141 rfl rfl) rfl ?_
 exact ⟨_, _, _, rfl, rfl, rfl, rfl, ((Below.refl _ _).alloc (Nat.le_refl _) _ |>.alloc (by simp) _).grown HG.out (by simp; omega) (fun k hk => by cases hk; omega)⟩
theorem of_10 (made : Bool) (w : World) : Calls Tryz.prog 118 #[.agg #[.bool made], .int .i64 10] w (OfPost (wantsOf made 10) true w) := by
 have hu := Tryz.underlying71
 go_enter Tryz.func118, Tryz.ntmps118
 go_wp2_with ((with_reducible refine gate_store (t := 141) (p := 4) rfl ?_); refine store_whole rfl rfl 141 _ _ rfl (w.heap.size + 1) _ 141 rfl (blk_new2 _ _ _) _ rfl rfl rfl (by simp [Value.oneCell']) ?_; intro w2 hb2 hg2; have HB := Aside0.mk hb2; have HG := Aside0.mk hg2; clear hb2 hg2)
 refine bodyPost_ret (results_ct rfl _ _ (w.heap.size + 1) 141 _ (0, 0) _ rfl HB.out Tryz.underlying141 rfl rfl) rfl ?_
 exact ⟨_, _, _, rfl, rfl, rfl, rfl, ((Below.refl _ _).alloc (Nat.le_refl _) _ |>.alloc (by simp) _).grown HG.out (by simp; omega) (fun k hk => by cases hk; omega)⟩
theorem of_11 (made : Bool) (w : World) : Calls Tryz.prog 118 #[.agg #[.bool made], .int .i64 11] w (OfPost (wantsOf made 11) true w) := by
 have hu := Tryz.underlying71
 go_enter Tryz.func118, Tryz.ntmps118
 go_wp2_with ((with_reducible refine gate_store (t := 141) (p := 4) rfl ?_); refine store_whole rfl rfl 141 _ _ rfl (w.heap.size + 1) _ 141 rfl (blk_new2 _ _ _) _ rfl rfl rfl (by simp [Value.oneCell']) ?_; intro w2 hb2 hg2; have HB := Aside0.mk hb2; have HG := Aside0.mk hg2; clear hb2 hg2)
 refine bodyPost_ret (results_ct rfl _ _ (w.heap.size + 1) 141 _ (0, 0) _ rfl HB.out Tryz.underlying141 rfl rfl) rfl ?_
 exact ⟨_, _, _, rfl, name_fn w2 made, rfl, con_fn w2 made, ((Below.refl _ _).alloc (Nat.le_refl _) _ |>.alloc (by simp) _).grown HG.out (by simp; omega) (fun k hk => by cases hk; omega)⟩
theorem of_12 (made : Bool) (w : World) : Calls Tryz.prog 118 #[.agg #[.bool made], .int .i64 12] w (OfPost (wantsOf made 12) true w) := by
 have hu := Tryz.underlying71
 go_enter Tryz.func118, Tryz.ntmps118
 go_wp2_with ((with_reducible refine gate_store (t := 141) (p := 4) rfl ?_); refine store_whole rfl rfl 141 _ _ rfl (w.heap.size + 1) _ 141 rfl (blk_new2 _ _ _) _ rfl rfl rfl (by simp [Value.oneCell']) ?_; intro w2 hb2 hg2; have HB := Aside0.mk hb2; have HG := Aside0.mk hg2; clear hb2 hg2)
 refine bodyPost_ret (results_ct rfl _ _ (w.heap.size + 1) 141 _ (0, 0) _ rfl HB.out Tryz.underlying141 rfl rfl) rfl ?_
 exact ⟨_, _, _, rfl, name_fn w2 made, rfl, con_fn w2 made, ((Below.refl _ _).alloc (Nat.le_refl _) _ |>.alloc (by simp) _).grown HG.out (by simp; omega) (fun k hk => by cases hk; omega)⟩
theorem of_13 (made : Bool) (w : World) : Calls Tryz.prog 118 #[.agg #[.bool made], .int .i64 13] w (OfPost (wantsOf made 13) true w) := by
 have hu := Tryz.underlying71
 go_enter Tryz.func118, Tryz.ntmps118
 go_wp2_with ((with_reducible refine gate_store (t := 141) (p := 4) rfl ?_); refine store_whole rfl rfl 141 _ _ rfl (w.heap.size + 1) _ 141 rfl (blk_new2 _ _ _) _ rfl rfl rfl (by simp [Value.oneCell']) ?_; intro w2 hb2 hg2; have HB := Aside0.mk hb2; have HG := Aside0.mk hg2; clear hb2 hg2)
 refine bodyPost_ret (results_ct rfl _ _ (w.heap.size + 1) 141 _ (0, 0) _ rfl HB.out Tryz.underlying141 rfl rfl) rfl ?_
 exact ⟨_, _, _, rfl, name_fn w2 made, rfl, con_fn w2 made, ((Below.refl _ _).alloc (Nat.le_refl _) _ |>.alloc (by simp) _).grown HG.out (by simp; omega) (fun k hk => by cases hk; omega)⟩
theorem of_14 (made : Bool) (w : World) : Calls Tryz.prog 118 #[.agg #[.bool made], .int .i64 14] w (OfPost (wantsOf made 14) true w) := by
 have hu := Tryz.underlying71
 go_enter Tryz.func118, Tryz.ntmps118
 go_wp2_with ((with_reducible refine gate_store (t := 141) (p := 4) rfl ?_); refine store_whole rfl rfl 141 _ _ rfl (w.heap.size + 1) _ 141 rfl (blk_new2 _ _ _) _ rfl rfl rfl (by simp [Value.oneCell']) ?_; intro w2 hb2 hg2; have HB := Aside0.mk hb2; have HG := Aside0.mk hg2; clear hb2 hg2)
 refine bodyPost_ret (results_ct rfl _ _ (w.heap.size + 1) 141 _ (0, 0) _ rfl HB.out Tryz.underlying141 rfl rfl) rfl ?_
 exact ⟨_, _, _, rfl, name_fn w2 made, rfl, name_fn w2 made, ((Below.refl _ _).alloc (Nat.le_refl _) _ |>.alloc (by simp) _).grown HG.out (by simp; omega) (fun k hk => by cases hk; omega)⟩
theorem of_15 (made : Bool) (w : World) : Calls Tryz.prog 118 #[.agg #[.bool made], .int .i64 15] w (OfPost (wantsOf made 15) true w) := by
 have hu := Tryz.underlying71
 go_enter Tryz.func118, Tryz.ntmps118
 go_wp2_with ((with_reducible refine gate_store (t := 141) (p := 4) rfl ?_); refine store_whole rfl rfl 141 _ _ rfl (w.heap.size + 1) _ 141 rfl (blk_new2 _ _ _) _ rfl rfl rfl (by simp [Value.oneCell']) ?_; intro w2 hb2 hg2; have HB := Aside0.mk hb2; have HG := Aside0.mk hg2; clear hb2 hg2)
 refine bodyPost_ret (results_ct rfl _ _ (w.heap.size + 1) 141 _ (0, 0) _ rfl HB.out Tryz.underlying141 rfl rfl) rfl ?_
 exact ⟨_, _, _, rfl, rfl, rfl, rfl, ((Below.refl _ _).alloc (Nat.le_refl _) _ |>.alloc (by simp) _).grown HG.out (by simp; omega) (fun k hk => by cases hk; omega)⟩
theorem ne_bool {a b : Int} (h : a ≠ b) : (a == b) = false := beq_eq_false_iff_ne.2 h
theorem of_none (made : Bool) (op : Int) (w : World) (h : op < 1 ∨ 15 < op) : Calls Tryz.prog 118 #[.agg #[.bool made], .int .i64 op] w (OfPost wNone false w) := by
 have hu := Tryz.underlying71
 have t1 : (op == 1) = false := ne_bool (by omega)
 have t2 : (op == 2) = false := ne_bool (by omega)
 have t3 : (op == 3) = false := ne_bool (by omega)
 have t4 : (op == 4) = false := ne_bool (by omega)
 have t5 : (op == 5) = false := ne_bool (by omega)
 have t6 : (op == 6) = false := ne_bool (by omega)
 have t7 : (op == 7) = false := ne_bool (by omega)
 have t8 : (op == 8) = false := ne_bool (by omega)
 have t9 : (op == 9) = false := ne_bool (by omega)
 have t10 : (op == 10) = false := ne_bool (by omega)
 have t11 : (op == 11) = false := ne_bool (by omega)
 have t12 : (op == 12) = false := ne_bool (by omega)
 have t13 : (op == 13) = false := ne_bool (by omega)
 have t14 : (op == 14) = false := ne_bool (by omega)
 have t15 : (op == 15) = false := ne_bool (by omega)
 clear h
 go_enter Tryz.func118, Tryz.ntmps118
 go_wp2_with ((with_reducible refine gate_store (t := 141) (p := 4) rfl ?_); refine store_whole rfl rfl 141 _ _ rfl (w.heap.size + 1) _ 141 rfl (blk_new2 _ _ _) _ rfl rfl rfl (by simp [Value.oneCell']) ?_; intro w2 hb2 hg2; have HB := Aside0.mk hb2; have HG := Aside0.mk hg2; clear hb2 hg2)
 refine bodyPost_ret (results_ct rfl _ _ (w.heap.size + 1) 141 _ (0, 0) _ rfl HB.out Tryz.underlying141 rfl rfl) rfl ?_
 exact ⟨_, _, _, rfl, rfl, rfl, rfl, ((Below.refl _ _).alloc (Nat.le_refl _) _ |>.alloc (by simp) _).grown HG.out (by simp; omega) (fun k hk => by cases hk; omega)⟩
theorem of_calls (made : Bool) (op : Int) (w : World) : Calls Tryz.prog 118 #[.agg #[.bool made], .int .i64 op] w (OfPost (wantsOf made op) (okOp op) w) := by
 by_cases h : 1 ≤ op ∧ op ≤ 15
 · have hk : okOp op = true := by simp [okOp, h.1, h.2]
   rw [hk]
   have hc : op = 1 ∨ op = 2 ∨ op = 3 ∨ op = 4 ∨ op = 5 ∨ op = 6 ∨ op = 7 ∨ op = 8 ∨ op = 9 ∨ op = 10 ∨ op = 11 ∨ op = 12 ∨ op = 13 ∨ op = 14 ∨ op = 15 := by omega
   rcases hc with rfl | rfl | rfl | rfl | rfl | rfl | rfl | rfl | rfl | rfl | rfl | rfl | rfl | rfl | rfl
   · exact of_1 made w
   · exact of_2 made w
   · exact of_3 made w
   · exact of_4 made w
   · exact of_5 made w
   · exact of_6 made w
   · exact of_7 made w
   · exact of_8 made w
   · exact of_9 made w
   · exact of_10 made w
   · exact of_11 made w
   · exact of_12 made w
   · exact of_13 made w
   · exact of_14 made w
   · exact of_15 made w
 · have hk : okOp op = false := by
     unfold okOp
     by_cases h1 : 1 ≤ op
     · rw [decide_eq_false (show ¬ op ≤ 15 by omega), Bool.and_false]
     · rw [decide_eq_false h1, Bool.false_and]
   have hw : wantsOf made op = wNone := by
     unfold wantsOf
     repeat rw [if_neg (by omega)]
   rw [hk, hw]
   exact of_none made op w (by omega)
end Go.Proofs.YtggfnbnochmkdaaGreat
