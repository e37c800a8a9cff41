/- The walk of RunnerStays. -/
import Derived.Deep.CutRange
import Derived.Test.YticndoihkfbpoaaGreatDoorXm
namespace Go.Proofs.YticndoihkfbpoaaGreatDoor
open Go Go.RowKit Go.Lib Go.Proofs.YticndoihkfbpoaaGreatDoorW.PrintWords Go.Proofs.YticndoihkfbpoaaGreatDoor.PScope
set_option maxRecDepth 100000
set_option linter.unusedSimpArgs false
set_option linter.unusedVariables false
attribute [local irreducible] wpStill

/-- What Step may do. -/
theorem stepR_cases (l : List FF) (N : Nat) (m : List Cl) (tr : Bool) (cn : Int) (ins : List Int) : ∃ m1 tr1 cn1 xs er, stepR l N m tr cn ins = (m1, tr1, cn1, xs, er) ∧
    ((er = 1 ∧ m1 = m ∧ tr1 = tr ∧ cn1 = cn ∧ xs = []) ∨ (er = 13 ∧ tr = true ∧ m1 = m ∧ tr1 = true ∧ cn1 = cn ∧ xs = []) ∨ (er = 0 ∧ tr = false ∧ tr1 = false) ∨ (er = 12 ∧ tr = false ∧ tr1 = true ∧ xs = [])) := by
  by_cases h : ins.length = (l.getD (lastV l).toNat zFF).params.length
  · cases tr with
    | true => exact ⟨_, _, _, _, _, stepR_state h, .inr (.inl ⟨rfl, rfl, rfl, rfl, rfl, rfl⟩)⟩
    | false =>
      rcases hr : instF l N l.length (lastV l) 0 ins m 0 with ⟨m1, cn1, _ | xs⟩
      · exact ⟨_, _, _, _, _, stepR_trap h hr, .inr (.inr (.inr ⟨rfl, rfl, rfl, rfl⟩))⟩
      · exact ⟨_, _, _, _, _, stepR_some h hr, .inr (.inr (.inl ⟨rfl, rfl, rfl⟩))⟩
  · exact ⟨_, _, _, _, _, stepR_arg h, .inl ⟨rfl, rfl, rfl, rfl, rfl⟩⟩
theorem newOk {l : List FF} (h : newErr l = 0) : flatOk l = true := by
  unfold newErr at h
  cases hf : flatOk l with
  | true => rfl
  | false => rw [hf] at h; simp at h
theorem RAt.keeps {w0 w W : World} {g : Nat} {ma : Addr} {A : Option Addr} {c : Nat} {l : List FF} {N : Nat} {m : List Cl} {tr : Bool} {cn : Int} (h : RAt w0 w g ma A c l N m tr cn) (ht : Turned (fun b => b = g ∨ b = ma.block) w W) : Below w0.heap.size w0 W :=
  ht.below h.below h.below.size (fun k hk => hk.elim (fun e => e ▸ h.hg) (fun e => e ▸ h.hb))
/-- A row of a script. -/
theorem script_row {w0 w : World} {B : Option Addr} {script : List (List Int)} (hS : Kd.C (Kd.slice 2 (Kd.int .i64)) w0 B script.length script) (hb : Below w0.heap.size w0 w) (k : Nat) (hk : k < script.length) :
    ∃ ad Ai ci, B = some ad ∧ w.cell? (ad.add k) = some (.slice Ai (script.getD k []).length ci) ∧ (Kd.int .i64).C w0 Ai (script.getD k []).length (script.getD k []) := by
  obtain ⟨ad, cs, rfl, _, hK, cc⟩ := Kd.C_get hS ([] : List Int) (k : Int) (by omega) (by omega)
  rw [Int.toNat_natCast] at hK
  obtain ⟨Ai, ci, rfl, _, hC⟩ := hK
  have x0 := (hb.cell (World.block_lt_of_cell? w0 _ (cc 0 _ rfl))).trans (cc 0 _ rfl)
  refine ⟨ad, Ai, ci, rfl, ?_, hC⟩
  rw [show (Kd.slice 2 (Kd.int .i64)).sz = 1 from rfl, Nat.mul_one, Nat.add_zero, Int.toNat_natCast] at x0
  exact x0
set_option maxHeartbeats 8000000 in
theorem runnerStays_calls (l : List FF) (hl : FlatSmall l) (hfw : ∀ f ∈ l, f.params.length ≤ 8796093022208) (hfr : ∀ f ∈ l, f.results.length ≤ 8796093022208) (w : World) (A : Option Addr) (c : Nat) (hC : kFF.C w A l.length l) (script : List (List Int)) (B : Option Addr) (cB : Nat) (hS : Kd.C (Kd.slice 2 (Kd.int .i64)) w B script.length script) (hL : LaidR w) :
    Calls Tryz.prog 7 #[.agg #[.slice A l.length c], .slice B script.length cB] w fun e w' => e = .returned (.bool true) ∧ Below w.heap.size w w' := by
  have HLS := Aside0.mk hl; have HFW := Aside0.mk hfw; have HFR := Aside0.mk hfr
  have hba := below_alloc (Below.refl w.heap.size w) (.cells #[.slice A l.length c] 24)
  have BX := Aside0.mk (blk_new w (.cells #[.slice A l.length c] 24))
  have hlv := rlives_calls _ (hL.below hba)
  have HC := Aside0.mk (Kd.C_below hC hba); have HS := Aside0.mk (Kd.C_below hS hba); have HB := Aside0.mk hba
  have hsm : script.length ≤ 9223372036854775807 := hS.2.1
  clear hl hfw hfr hC hS hL hba
  go_enter Tryz.func7, Tryz.ntmps7
  go_wp2_with fail
  obtain ⟨gx, hgx⟩ : ∃ gx, w.heap.size = gx := ⟨_, rfl⟩
  rw [hgx] at BX ⊢
  clear hgx
  refine hlv.mono ?_
  rintro e w1 ⟨rfl, hb⟩
  replace BX := Aside0.mk (below_blk BX.out hb); replace HC := Aside0.mk (Kd.C_below HC.out hb); replace HS := Aside0.mk (Kd.C_below HS.out hb); replace HB := Aside0.mk (below_step HB.out hb)
  clear hb hlv
  have bx0 := (blk_cell BX.out 0).trans rfl
  go_wp2_with fail
  refine (new_calls l HLS.out w1 A c HC.out).mono ?_
  clear bx0
  intro e w3 hp
  unfold NewPost at hp
  rcases hp with ⟨hne, rfl, hb⟩ | ⟨h0, g, ma, rfl, hR⟩
  · obtain ⟨er, her⟩ : ∃ er, newErr l = er := ⟨_, rfl⟩
    rw [her] at hne ⊢
    have d : (er != (0 : Int)) = true := by rw [bne, beq_eq_false_iff_ne.2 hne]; rfl
    have HB3 := Aside0.mk (below_step HB.out hb)
    clear hne her hb
    go_wp2_with fail
    go_ret
    exact ⟨rfl, HB3.out⟩
  have HOK := Aside0.mk (newOk h0)
  have hpos := flat_pos HOK.out
  obtain ⟨v, hv⟩ : ∃ v : Int, ((l.length - 1 : Nat) : Int) = v := ⟨_, rfl⟩
  have hv0 : 0 ≤ v := by omega
  have hv1 : v < (l.length : Int) := by omega
  have hw1 : wrap64 ((l.length : Int) - 1) = v := by have := HLS.out.len; unfold wrap64; omega
  have hw2 : IntKind.i64.wrap ((l.length : Int) - 1) = v := by rw [wrapEq]; exact hw1
  have HFO := Aside0.mk (FunOk.of (funOk HOK.out (k := l.length - 1) (by omega)))
  have HNC := Aside0.mk (show (cellsN l : Int) = (l.getD v.toNat zFF).cells by have := HFO.out.c0; rw [← hv, Int.toNat_natCast]; unfold cellsN; omega)
  clear h0 hv HFO
  obtain ⟨N, hN⟩ : ∃ N, cellsN l = N := ⟨_, rfl⟩
  obtain ⟨m0, hm0⟩ : ∃ m0, begunM l (List.replicate N (0, false)) = m0 := ⟨_, rfl⟩
  rw [hN] at hR HNC
  rw [hm0] at hR
  clear hN hm0
  have HR := Aside0.mk hR
  have LGX := Aside0.mk (blk_lt BX.out)
  replace BX := Aside0.mk (below_blk BX.out hR.below)
  have HBW := Aside0.mk HB.out
  clear hR
  obtain ⟨xad, xcs, rfl, _, xK, xcc⟩ := Kd.C_get HC.out zFF v (by omega) (by omega)
  have xK' := xK
  obtain ⟨xA0, xc0, xA1, xc1, xA3, xc3, xA4, xc4, xA5, xc5, rfl, xl0, xg0, xl1, xg1, xl3, xg3, xl4, xg4, xl5, xg5⟩ := kFF_open6 xK'
  have xx0 := ((Below.refl w1.heap.size w1).cell (World.block_lt_of_cell? w1 _ (xcc 0 _ rfl))).trans (xcc 0 _ rfl)
  have xx1 := ((Below.refl w1.heap.size w1).cell (World.block_lt_of_cell? w1 _ (xcc 1 _ rfl))).trans (xcc 1 _ rfl)
  have xx2 := ((Below.refl w1.heap.size w1).cell (World.block_lt_of_cell? w1 _ (xcc 2 _ rfl))).trans (xcc 2 _ rfl)
  have xx3 := ((Below.refl w1.heap.size w1).cell (World.block_lt_of_cell? w1 _ (xcc 3 _ rfl))).trans (xcc 3 _ rfl)
  have xx4 := ((Below.refl w1.heap.size w1).cell (World.block_lt_of_cell? w1 _ (xcc 4 _ rfl))).trans (xcc 4 _ rfl)
  have xx5 := ((Below.refl w1.heap.size w1).cell (World.block_lt_of_cell? w1 _ (xcc 5 _ rfl))).trans (xcc 5 _ rfl)
  rw [show (kFF).sz = 6 from rfl, Nat.add_zero] at xx0
  rw [show (kFF).sz = 6 from rfl, add_field _ _ 1 (by omega)] at xx1
  rw [show (kFF).sz = 6 from rfl, add_field _ _ 2 (by omega)] at xx2
  rw [show (kFF).sz = 6 from rfl, add_field _ _ 3 (by omega)] at xx3
  rw [show (kFF).sz = 6 from rfl, add_field _ _ 4 (by omega)] at xx4
  rw [show (kFF).sz = 6 from rfl, add_field _ _ 5 (by omega)] at xx5
  clear xcc
  generalize Yx0 : l.getD v.toNat zFF = x at xx0 xx1 xx2 xx3 xx4 xx5 xK xl0 xg0 xl1 xg1 xl3 xg3 xl4 xg4 xl5 xg5
  have Yx := Aside0.mk Yx0; clear Yx0
  have X2 := Aside0.mk xx2
  clear xx0 xx1 xx2 xx3 xx4 xx5 xK xl0 xg0 xl1 xg1 xl3 xg3 xl4 xg4 xl5 xg5
  rw [Yx.out] at HNC
  have dl : ((l.length : Int) == (0 : Int)) = false := beq_eq_false_iff_ne.2 (by omega)
  have bx0 := (blk_cell BX.out 0).trans rfl
  go_wp2_with fail
  clear bx0 dl
  go_loopg [7, 8] script.length (fun gg s7 s8 wr => ∃ (kk : Nat) (m : List Cl) (tr : Bool) (cn : Int), kk ≤ script.length ∧ script.length - kk ≤ gg ∧ s8 = .int .i64 kk ∧ s7 = .bool tr ∧ Aside0 (RAt w1 wr g ma (some xad) c l N m tr cn) ∧ Aside0 (wr.heap[gx]? = some (.cells #[.slice (some xad) l.length c] 24 (0, 0))))
  case atStart => exact ⟨0, m0, false, 0, Nat.zero_le _, by omega, rfl, rfl, HR, BX⟩
  case round =>
    clear HR BX
    obtain ⟨kk, m, tr, cn, hkk, hgk, rfl, rfl, HR, BX⟩ := hrel
    by_cases hlt : kk < script.length
    · have hltz : (kk : Int) < (script.length : Int) := by omega
      by_cases h20 : (kk : Int) < 20
      · obtain ⟨sad, Ai, ci, hB, xs0, hRow⟩ := script_row HS.out HR.out.below kk hlt
        obtain ⟨ins, hins⟩ : ∃ ins, script.getD kk [] = ins := ⟨_, rfl⟩
        rw [hins] at xs0 hRow
        subst hB
        have HROW := Aside0.mk hRow
        clear hRow hins
        go_wp2_with fail
        refine (rcount_calls HR.out).mono ?_
        rintro e w4 ⟨rfl, rfl⟩
        go_wp2_with fail
        refine (rdefined_calls HR.out).mono ?_
        rintro e w5 ⟨rfl, hb⟩
        replace HR := Aside0.mk (HR.out.below' hb)
        replace BX := Aside0.mk (below_blk BX.out hb)
        have xs1 := (hb.cell (World.block_lt_of_cell? _ _ xs0)).trans xs0
        clear hb xs0
        obtain ⟨rs, hrs⟩ : ∃ rs, stepR l N m tr cn ins = rs := ⟨_, rfl⟩
        have HCA := Aside0.mk (stepR_cases l N m tr cn ins)
        rw [hrs] at HCA
        have HST := Aside0.mk (stepm_calls HOK.out HLS.out HC.out HFW.out HFR.out ins Ai ci (fun W hW => Kd.C_below HROW.out (HR.out.keeps hW)) HR.out)
        rw [hrs] at HST
        clear hrs
        go_wp2_with fail
        refine HST.out.mono ?_
        clear xs1 HST
        rintro e w6 ⟨⟨Bo, cBo, rfl, _, _⟩, hR, hT⟩
        obtain ⟨m1, tr1, cn1, xs, er, rfl, hca⟩ := HCA.out
        have HCS := Aside0.mk hca
        simp only [] at hR ⊢
        have HR6 := Aside0.mk hR
        replace BX := Aside0.mk (hT.blk BX.out (by have h1 := HR.out.hg; have h2 := HR.out.hb; have h3 := LGX.out; omega))
        clear hca hR hT HCA HR
        have HM := Aside0.mk (show defN m1 ≤ N from HR6.out.len ▸ defN_le m1)
        have bx0 := (blk_cell BX.out 0).trans rfl
        have z2 := (HR6.out.below.cell (World.block_lt_of_cell? w1 _ X2.out)).trans X2.out
        have dn : ((N : Int) != x.cells) = false := by rw [HNC.out]; simp
        have dm : decide ((defN m1 : Int) > (N : Int)) = false := decide_eq_false (by have := HM.out; omega)
        have DM := Aside0.mk (show decide (N < defN m1) = false from decide_eq_false (by have := HM.out; omega))
        have HR6d := Aside0.mk (HR6.out.below' (below_drew1 (Below.refl _ _)))
        go_wp2_with fail
        go_cut [73] from 55 to 73 (fun s73 wx => s73 = .bool false ∧ Aside0 (RAt w1 wx g ma (some xad) c l N m1 tr1 cn1) ∧ Aside0 (wx.heap[gx]? = some (.cells #[.slice (some xad) l.length c] 24 (0, 0))))
        case first =>
          go_region_with (first | (go_at_call 31; refine (rcells_calls (by first | exact HR8.out | exact HR6d.out)).mono ?_; rintro e w7 ⟨rfl, rfl⟩) | (go_at_call 29; refine (rdefined_calls HR6d.out).mono ?_; rintro e w8 ⟨rfl, hb⟩; have HR8 := Aside0.mk (HR6d.out.below' hb); have BX8 := Aside0.mk (below_blk (blk_drew BX.out) hb); clear hb))
          all_goals
            go_wp2_with fail
            go_meet
            case rel => exact ⟨by first | rfl | rw [DM.out], HR8, BX8⟩
        case rest =>
        clear bx0 z2 dn dm HR6 HR6d BX
        obtain ⟨rfl, HR, BX⟩ := hcut
        rcases HCS.out with ⟨rfl, rfl, rfl, rfl, rfl⟩ | ⟨rfl, rfl, rfl, rfl, rfl, rfl⟩ | ⟨rfl, rfl, rfl⟩ | ⟨rfl, rfl, rfl, rfl⟩
        · clear HCS
          cases tr1
          all_goals
            go_wp2_with fail
            refine (rcount_calls HR.out).mono ?_
            rintro e w7 ⟨rfl, rfl⟩
            go_wp2_with fail
            refine (rdefined_calls HR.out).mono ?_
            rintro e w8 ⟨rfl, hb⟩
            replace HR := Aside0.mk (HR.out.below' hb)
            replace BX := Aside0.mk (below_blk BX.out hb)
            clear hb
            go_wp2_with fail
            go_roundg (script.length - (kk + 1))
            case measure => omega
            case rel => exact ⟨kk + 1, _, _, _, by omega, by omega, by go_num, rfl, HR, BX⟩
        · clear HCS
          go_wp2_with fail
          refine (rcount_calls HR.out).mono ?_
          rintro e w7 ⟨rfl, rfl⟩
          go_wp2_with fail
          refine (rdefined_calls HR.out).mono ?_
          rintro e w8 ⟨rfl, hb⟩
          replace HR := Aside0.mk (HR.out.below' hb)
          replace BX := Aside0.mk (below_blk BX.out hb)
          clear hb
          go_wp2_with fail
          go_roundg (script.length - (kk + 1))
          case measure => omega
          case rel => exact ⟨kk + 1, _, true, _, by omega, by omega, by go_num, by first | rfl | (cases tr <;> rfl) | simp, HR, BX⟩
        · clear HCS
          go_wp2_with fail
          go_roundg (script.length - (kk + 1))
          case measure => omega
          case rel => exact ⟨kk + 1, _, false, _, by omega, by omega, by go_num, by first | rfl | (cases tr <;> rfl) | simp, HR, BX⟩
        · clear HCS
          go_wp2_with fail
          go_roundg (script.length - (kk + 1))
          case measure => omega
          case rel => exact ⟨kk + 1, _, true, _, by omega, by omega, by go_num, by first | rfl | (cases tr <;> rfl) | simp, HR, BX⟩
      · have HBE := Aside0.mk (HB.out.trans (HR.out.below.mono HB.out.size))
        go_wp2_with fail
        go_ret
        exact ⟨rfl, HBE.out⟩
    · have hltz : ¬ (kk : Int) < (script.length : Int) := by omega
      have HBE := Aside0.mk (HB.out.trans (HR.out.below.mono HB.out.size))
      go_wp2_with fail
      go_ret
      exact ⟨rfl, HBE.out⟩
end Go.Proofs.YticndoihkfbpoaaGreatDoor
