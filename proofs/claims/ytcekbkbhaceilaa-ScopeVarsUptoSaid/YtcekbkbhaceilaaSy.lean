/- The law ScopeVars: its walk. -/
import Derived.Test.YtcekbkbhaceilaaSx
namespace Go.Proofs.Ytcekbkbhaceilaa
open Go Go.RowKit Go.Lib Go.Proofs.YtcekbkbhaceilaaW.PrintWords Go.Proofs.Ytcekbkbhaceilaa.PScope
set_option maxRecDepth 100000
set_option linter.unusedSimpArgs false
set_option linter.unusedVariables false

theorem has_drew (A : Option Addr) (c : Nat) (l : List ByteArray) (s : ByteArray) (b : Bool) (w : World) (hC : Kd.string.C w A l.length l) (hc : l.length ≤ c) (hl : l.length < 9223372036854775807) (hb : inB l s = b) (m : Nat) :
    Calls Try.prog 10 #[.slice A l.length c, .string s] (w.drewN m) fun e w' => e = .returned (.bool b) ∧ ∃ k, w' = w.drewN k := by
  refine (has_calls A c l s (w.drewN m) (Kd.C_drewN hC m) hc hl).mono ?_
  rintro e w' ⟨rfl, ⟨k, rfl⟩⟩
  exact ⟨by rw [hb], m + k, by rw [World.drewN_drewN]⟩
theorem C_take' {α : Type} {d : Kd α} {w : World} {A : Option Addr} {xs : List α} (h : d.C w A xs.length xs) (k : Nat) : d.C w A (xs.take k).length (xs.take k) := by
  refine ⟨rfl, Nat.le_trans (by rw [List.length_take]; omega) h.2.1, fun hn => ?_⟩
  have hl : (xs.take k).length ≤ xs.length := by rw [List.length_take]; omega
  obtain ⟨ad, e, hh⟩ := h.2.2 (by omega)
  refine ⟨ad, e, fun j q hj => hh j q ?_⟩
  rw [List.getElem?_take] at hj
  split at hj
  · exact hj
  · cases hj
theorem nodup_not (l : List ByteArray) (h : l.Nodup) (i : Nat) (hi : i < l.length) : inB (l.take i) (l.getD i (⟨#[]⟩ : ByteArray)) = false := by
  rw [inB_false]; exact (nodup_take l _).1 h i hi
theorem getD_mem {α : Type} (l : List α) (z : α) (i : Nat) (hi : i < l.length) : l.getD i z ∈ l := by
  rw [List.getD_eq_getElem?_getD, List.getElem?_eq_getElem hi]; exact List.getElem_mem hi

set_option maxHeartbeats 16000000 in
theorem scopeVars_calls (es : List S72) (ns : List S36) (Ae An : Option Addr) (ce cn : Nat) (w : World) (he : k72.C w Ae es.length es) (hn : k36.C w An ns.length ns) (hvb : ∀ k, k < ns.length → (varsL (ns.getD k z36)).length ≤ 1048576) :
    Calls Try.prog 4 #[.agg #[.slice Ae es.length ce, .slice An ns.length cn]] w fun e w' => e = .returned (.bool true) ∧ Below w.heap.size w w' := by
  have HE := Aside0.mk he; have HN := Aside0.mk hn; have HB := Aside0.mk (Below.refl w.heap.size w)
  have hli := fun W => lives_calls W
  have hck := fun (W : World) (hB : Below w.heap.size w W) => check_calls true es ns Ae An ce cn W (Kd.C_below he hB) (Kd.C_below hn hB)
  have HLAW := Aside0.mk (fun h k hk => vars_law (made := true) (es := es) (ns := ns) h k hk)
  have HVB := Aside0.mk hvb
  clear he hn hvb
  generalize checkR true es ns = C at hck HLAW
  obtain ⟨c1, c2, c3⟩ := C
  simp only at hck
  have hu1 := Try.underlying25
  have hu2 := Try.underlying29
  have hu3 := Try.underlying27
  have hu4 := Try.underlying36
  have hu5 := Try.underlying46
  have hu6 := Try.underlying43
  have hu7 := Try.underlying41
  have hfd : ∀ (W : World) (a b c : Int), (Instr.field 29 (.agg #[.int .i64 a, .int .i64 b, .int .i64 c]) 0).run Try.prog W = .ok (.int .i64 a) W := fun _ _ _ _ => by kernel_rfl
  go_enter Try.func4, Try.ntmps4
  go_wp2_with ((with_reducible refine gate_dst (N := 1) rfl ?_); refine box_event ?hg (N := 1) ?hd (cs := #[.slice Ae es.length ce, .slice An ns.length cn]) (t := 25) ?hr ?_; (case hd => rfl); (case hg => rfl); (case hr => first | (go_simp; done) | (go_simp; rfl)); intro g1 hg_ w_ hbox hb; have B1 := Aside0.mk hbox; have LB1 := Aside0.mk ((by rw [hg_]; exact below_size HB.out) : w.heap.size ≤ g1); replace HB := Aside0.mk (below_step HB.out hb); clear hb hbox hg_; have c1_0 := (blk_cell B1.out 0).trans rfl; have c1_1 := (blk_cell B1.out 1).trans rfl)
  refine (hli _).mono ?_
  rintro e w3 ⟨rfl, hb⟩
  replace B1 := Aside0.mk (below_blk B1.out hb)
  replace HB := Aside0.mk (below_step HB.out hb)
  clear hb hli c1_0 c1_1
  have c1_0 := (blk_cell B1.out 0).trans rfl
  have c1_1 := (blk_cell B1.out 1).trans rfl
  go_wp2_with fail
  refine (hck _ HB.out).mono ?_
  rintro e w4 ⟨rfl, hb⟩
  replace B1 := Aside0.mk (below_blk B1.out hb)
  replace HB := Aside0.mk (below_step HB.out hb)
  clear hb hck c1_0 c1_1
  have c1_0 := (blk_cell B1.out 0).trans rfl
  have c1_1 := (blk_cell B1.out 1).trans rfl
  by_cases e0 : c1 ≠ 0
  · have t0 : (c1 != 0) = true := by rw [bne, beq_eq_false_iff_ne.2 e0]; rfl
    clear e0 HLAW
    go_wp2_with fail
    go_ret
    exact ⟨rfl, HB.out⟩
  obtain rfl : c1 = 0 := by omega
  have HV := Aside0.mk (show ∀ k, k < ns.length → VarsOk (ns.getD k z36) from fun k hk => HLAW.out rfl k hk)
  clear HLAW
  go_wp2_with fail
  clear c1_0 c1_1
  go_loopg [3] ns.length (fun gg s_ wr => ∃ (kka : Nat), kka ≤ ns.length ∧ ns.length - kka ≤ gg ∧ s_ = .int .i64 kka ∧ Aside0 (Below w.heap.size w wr) ∧ Aside0 (wr.heap[g1]? = some (.cells #[.slice Ae es.length ce, .slice An ns.length cn] 25 (0, 0))))
  case atStart => exact ⟨0, Nat.zero_le _, by omega, rfl, HB, B1⟩
  case round =>
    clear HB B1
    obtain ⟨kka, hkka, hgkka, rfl, HB, B1⟩ := hrel
    have hmxa : ns.length ≤ 9223372036854775807 := (HN.out).2.1
    by_cases hlta : kka < ns.length
    · have hltza : (kka : Int) < (ns.length : Int) := by omega
      have c1_0 := (blk_cell B1.out 0).trans rfl
      have c1_1 := (blk_cell B1.out 1).trans rfl
      have hvv := HV.out kka hlta
      have hvn := HVB.out kka hlta
      obtain ⟨nad, ncs, rfl, _, nK, ncc⟩ := Kd.C_get HN.out z36 (kka : Int) (by omega) (by omega)
      have nK' := nK
      obtain ⟨nA1, nc1, nA2, nc2, nA3, nc3, nA4, nc4, rfl, nl1, ng1, nl2, ng2, nl3, ng3, nl4, ng4⟩ := k36_open nK'
      have nx0 := (HB.out.cell (World.block_lt_of_cell? w _ (ncc 0 _ rfl))).trans (ncc 0 _ rfl)
      have nx1 := (HB.out.cell (World.block_lt_of_cell? w _ (ncc 1 _ rfl))).trans (ncc 1 _ rfl)
      have nx2 := (HB.out.cell (World.block_lt_of_cell? w _ (ncc 2 _ rfl))).trans (ncc 2 _ rfl)
      have nx3 := (HB.out.cell (World.block_lt_of_cell? w _ (ncc 3 _ rfl))).trans (ncc 3 _ rfl)
      have nx4 := (HB.out.cell (World.block_lt_of_cell? w _ (ncc 4 _ rfl))).trans (ncc 4 _ rfl)
      rw [show (k36).sz = 5 from rfl, Nat.add_zero, Int.toNat_natCast] at nx0
      rw [show (k36).sz = 5 from rfl, Int.toNat_natCast, add_field _ _ 1 (by omega)] at nx1
      rw [show (k36).sz = 5 from rfl, Int.toNat_natCast, add_field _ _ 2 (by omega)] at nx2
      rw [show (k36).sz = 5 from rfl, Int.toNat_natCast, add_field _ _ 3 (by omega)] at nx3
      rw [show (k36).sz = 5 from rfl, Int.toNat_natCast, add_field _ _ 4 (by omega)] at nx4
      clear ncc
      try simp only [Int.toNat_natCast] at nx0 nx1 nx2 nx3 nx4 nK nl1 ng1 nl2 ng2 nl3 ng3 nl4 ng4
      generalize Yn0 : ns.getD kka z36 = n at hvv hvn nx0 nx1 nx2 nx3 nx4 nK nl1 ng1 nl2 ng2 nl3 ng3 nl4 ng4
      have Yn := Aside0.mk Yn0; clear Yn0
      have nL1 := Aside0.mk nl1; have nG1 := Aside0.mk ng1; clear nl1 ng1
      have nL2 := Aside0.mk nl2; have nG2 := Aside0.mk ng2; clear nl2 ng2
      have nL3 := Aside0.mk nl3; have nG3 := Aside0.mk ng3; clear nl3 ng3
      have nL4 := Aside0.mk nl4; have nG4 := Aside0.mk ng4; clear nl4 ng4
      have hn2 : n.f2.length ≤ 1048576 := by have h_ := hvn; rw [varsL, List.length_append] at h_; omega
      have HN2 := Aside0.mk hn2; clear hn2
      have HVV := Aside0.mk hvv; have NK := Aside0.mk nK; have HVN := Aside0.mk hvn
      clear hvv hvn nK
      have hva := fun (W : World) (hB : Below w.heap.size w W) => vars_calls n W _ (Kd.K_below _ hB NK.out) (by have := HVN.out; omega)
      have HND := Aside0.mk HVV.out.1; have HOU := Aside0.mk HVV.out.2.1; have HIT := Aside0.mk HVV.out.2.2
      clear HVV
      generalize varsL n = l at hva HVN HND HOU HIT
      go_wp2_with ((with_reducible refine gate_store (t := 36) (p := 4) rfl ?_); refine store_whole rfl rfl 36 _ _ rfl wr.heap.size _ 36 rfl (blk_new _ _) _ rfl rfl rfl (by simp [Value.oneCell']) ?_; intro w2 hb2 hg2; replace B1 := Aside0.mk (blk_as B1.out hg2); replace HB := Aside0.mk (below_as HB.out hg2); obtain ⟨g4, hq_⟩ : ∃ g_, g_ = wr.heap.size := ⟨_, rfl⟩; rw [← hq_] at hb2; rw [← hq_]; have B4 := Aside0.mk hb2; clear hb2 hg2 hq_; have c4_0 := (blk_cell B4.out 0).trans rfl; have c4_1 := (blk_cell B4.out 1).trans rfl; have c4_2 := (blk_cell B4.out 2).trans rfl; have c4_3 := (blk_cell B4.out 3).trans rfl; have c4_4 := (blk_cell B4.out 4).trans rfl)
      refine (hva _ HB.out).mono ?_
      rintro e w5 ⟨A, c, rfl, hlc, hC, hb⟩
      have HLC := Aside0.mk hlc; have HC := Aside0.mk hC
      replace B1 := Aside0.mk (below_blk B1.out hb)
      replace B4 := Aside0.mk (below_blk B4.out hb)
      replace HB := Aside0.mk (below_step HB.out hb)
      clear hlc hC hb hva c4_0 c4_1 c4_2 c4_3 c4_4 c1_0 c1_1
      go_wp2_with fail
      go_loopg [6] l.length (fun gg s_ wr => ∃ (kkb : Nat), kkb ≤ l.length ∧ l.length - kkb ≤ gg ∧ s_ = .int .i64 kkb ∧ Aside0 (Below w.heap.size w wr) ∧ Aside0 (wr.heap[g1]? = some (.cells #[.slice Ae es.length ce, .slice (some nad) ns.length cn] 25 (0, 0))) ∧ Aside0 (wr.heap[g4]? = some (.cells #[.string n.f0, .slice nA1 (n.f1).length nc1, .slice nA2 (n.f2).length nc2, .slice nA3 (n.f3).length nc3, .slice nA4 (n.f4).length nc4] 36 (0, 0))) ∧ Aside0 (Kd.string.C wr A l.length l))
      case atStart => exact ⟨0, Nat.zero_le _, by omega, rfl, HB, B1, B4, HC⟩
      case round =>
        clear HB B1 B4 HC
        obtain ⟨kkb, hkkb, hgkkb, rfl, HB, B1, B4, HC⟩ := hrel
        have hmxb : l.length ≤ 9223372036854775807 := (HC.out).2.1
        by_cases hltb : kkb < l.length
        · have hltzb : (kkb : Int) < (l.length : Int) := by omega
          have hnn := nodup_not l HND.out kkb hltb
          have hlt63 : l.length < 9223372036854775807 := by have := HVN.out; omega
          have hkc : (kkb : Int) ≤ (c : Int) := by have := HLC.out; omega
          have hcl := HLC.out
          obtain ⟨sad, scs, rfl, _, sK, scc⟩ := Kd.C_get HC.out (⟨#[]⟩ : ByteArray) (kkb : Int) (by omega) (by omega)
          obtain rfl := sK
          have sx0 := ((Below.refl wr.heap.size wr).cell (World.block_lt_of_cell? wr _ (scc 0 _ rfl))).trans (scc 0 _ rfl)
          simp only [show Kd.string.sz = 1 from rfl, Nat.mul_one, Nat.add_zero, Int.toNat_natCast] at sx0
          clear scc
          try simp only [Int.toNat_natCast] at sx0
          generalize Ys0 : l.getD kkb (⟨#[]⟩ : ByteArray) = s at hnn sx0
          have Ys := Aside0.mk Ys0; clear Ys0
          have hh := has_drew _ c (l.take kkb) s false wr (C_take' HC.out kkb) (by rw [List.length_take]; omega) (by rw [List.length_take]; omega) hnn
          rw [show (l.take kkb).length = kkb by rw [List.length_take]; omega] at hh
          clear hnn hlt63 hcl
          go_wp2_with fail
          go_quiet ((go_at_call 10; exact hh _))
          have HB_ := Aside0.mk (pw_below_drewN HB.out nq); clear HB
          have HC_ := Aside0.mk (Kd.C_drewN HC.out nq); clear HC
          have B1_ := Aside0.mk (blk_drewN B1.out nq); clear B1
          have B4_ := Aside0.mk (blk_drewN B4.out nq); clear B4
          generalize wr.drewN nq = w6 at HB_ HC_ B1_ B4_ ⊢
          have HB := HB_; clear HB_
          have HC := HC_; clear HC_
          have B1 := B1_; clear B1_
          have B4 := B4_; clear B4_
          clear hh sx0
          go_wp2_with fail
          go_roundg (l.length - (kkb + 1))
          case measure => omega
          case rel => exact ⟨kkb + 1, by omega, by omega, by go_num, HB, B1, B4, HC⟩
        · have hltzb : ¬ (kkb : Int) < (l.length : Int) := by omega
          obtain rfl : kkb = l.length := by omega
          have c4_0 := (blk_cell B4.out 0).trans rfl
          have c4_1 := (blk_cell B4.out 1).trans rfl
          have c4_2 := (blk_cell B4.out 2).trans rfl
          have c4_3 := (blk_cell B4.out 3).trans rfl
          have c4_4 := (blk_cell B4.out 4).trans rfl
          go_wp2_with fail
          clear c4_0 c4_1 c4_2 c4_3 c4_4
          go_loopg [7] n.f3.length (fun gg s_ wr => ∃ (kkc : Nat), kkc ≤ n.f3.length ∧ n.f3.length - kkc ≤ gg ∧ s_ = .int .i64 kkc ∧ Aside0 (Below w.heap.size w wr) ∧ Aside0 (wr.heap[g1]? = some (.cells #[.slice Ae es.length ce, .slice (some nad) ns.length cn] 25 (0, 0))) ∧ Aside0 (wr.heap[g4]? = some (.cells #[.string n.f0, .slice nA1 (n.f1).length nc1, .slice nA2 (n.f2).length nc2, .slice nA3 (n.f3).length nc3, .slice nA4 (n.f4).length nc4] 36 (0, 0))) ∧ Aside0 (Kd.string.C wr A l.length l))
          case atStart => exact ⟨0, Nat.zero_le _, by omega, rfl, HB, B1, B4, HC⟩
          case round =>
            clear HB B1 B4 HC
            obtain ⟨kkc, hkkc, hgkkc, rfl, HB, B1, B4, HC⟩ := hrel
            have hmxc : n.f3.length ≤ 9223372036854775807 := (nG3.out).2.1
            by_cases hltc : kkc < n.f3.length
            · have hltzc : (kkc : Int) < (n.f3.length : Int) := by omega
              have c4_0 := (blk_cell B4.out 0).trans rfl
              have c4_1 := (blk_cell B4.out 1).trans rfl
              have c4_2 := (blk_cell B4.out 2).trans rfl
              have c4_3 := (blk_cell B4.out 3).trans rfl
              have c4_4 := (blk_cell B4.out 4).trans rfl
              have hou := HOU.out (n.f3.getD kkc (⟨#[]⟩ : ByteArray)) (getD_mem n.f3 _ kkc hltc)
              have hlt63 : l.length < 9223372036854775807 := by have := HVN.out; omega
              skip
              obtain ⟨sad, scs, rfl, _, sK, scc⟩ := Kd.C_get nG3.out (⟨#[]⟩ : ByteArray) (kkc : Int) (by omega) (by omega)
              obtain rfl := sK
              have sx0 := (HB.out.cell (World.block_lt_of_cell? w _ (scc 0 _ rfl))).trans (scc 0 _ rfl)
              simp only [show Kd.string.sz = 1 from rfl, Nat.mul_one, Nat.add_zero, Int.toNat_natCast] at sx0
              clear scc
              try simp only [Int.toNat_natCast] at sx0
              generalize Ys0 : n.f3.getD kkc (⟨#[]⟩ : ByteArray) = s at hou sx0
              have Ys := Aside0.mk Ys0; clear Ys0
              have h1 := has_drew _ c l s true wr HC.out HLC.out hlt63 ((inB_iff _ _).2 hou.1)
              have h2 := has_drew _ nc2 n.f2 s false wr (Kd.C_below nG2.out HB.out) nL2.out (by have h_ := HN2.out; omega) ((inB_false _ _).2 hou.2)
              clear hou hlt63
              go_wp2_with fail
              go_quiet ((go_at_call 10; with_reducible first | exact h1 _ | exact h2 _))
              have HB_ := Aside0.mk (pw_below_drewN HB.out nq); clear HB
              have HC_ := Aside0.mk (Kd.C_drewN HC.out nq); clear HC
              have B1_ := Aside0.mk (blk_drewN B1.out nq); clear B1
              have B4_ := Aside0.mk (blk_drewN B4.out nq); clear B4
              generalize wr.drewN nq = w6 at HB_ HC_ B1_ B4_ ⊢
              have HB := HB_; clear HB_
              have HC := HC_; clear HC_
              have B1 := B1_; clear B1_
              have B4 := B4_; clear B4_
              clear h1 h2 sx0 c4_0 c4_1 c4_2 c4_3 c4_4
              go_wp2_with fail
              go_roundg (n.f3.length - (kkc + 1))
              case measure => omega
              case rel => exact ⟨kkc + 1, by omega, by omega, by go_num, HB, B1, B4, HC⟩
            · have hltzc : ¬ (kkc : Int) < (n.f3.length : Int) := by omega
              obtain rfl : kkc = n.f3.length := by omega
              have c4_0 := (blk_cell B4.out 0).trans rfl
              have c4_1 := (blk_cell B4.out 1).trans rfl
              have c4_2 := (blk_cell B4.out 2).trans rfl
              have c4_3 := (blk_cell B4.out 3).trans rfl
              have c4_4 := (blk_cell B4.out 4).trans rfl
              go_wp2_with fail
              clear c4_0 c4_1 c4_2 c4_3 c4_4
              go_loopg [8] n.f4.length (fun gg s_ wr => ∃ (kkd : Nat), kkd ≤ n.f4.length ∧ n.f4.length - kkd ≤ gg ∧ s_ = .int .i64 kkd ∧ Aside0 (Below w.heap.size w wr) ∧ Aside0 (wr.heap[g1]? = some (.cells #[.slice Ae es.length ce, .slice (some nad) ns.length cn] 25 (0, 0))) ∧ Aside0 (wr.heap[g4]? = some (.cells #[.string n.f0, .slice nA1 (n.f1).length nc1, .slice nA2 (n.f2).length nc2, .slice nA3 (n.f3).length nc3, .slice nA4 (n.f4).length nc4] 36 (0, 0))) ∧ Aside0 (Kd.string.C wr A l.length l))
              case atStart => exact ⟨0, Nat.zero_le _, by omega, rfl, HB, B1, B4, HC⟩
              case round =>
                clear HB B1 B4 HC
                obtain ⟨kkd, hkkd, hgkkd, rfl, HB, B1, B4, HC⟩ := hrel
                have hmxd : n.f4.length ≤ 9223372036854775807 := (nG4.out).2.1
                by_cases hltd : kkd < n.f4.length
                · have hltzd : (kkd : Int) < (n.f4.length : Int) := by omega
                  have c4_0 := (blk_cell B4.out 0).trans rfl
                  have c4_1 := (blk_cell B4.out 1).trans rfl
                  have c4_2 := (blk_cell B4.out 2).trans rfl
                  have c4_3 := (blk_cell B4.out 3).trans rfl
                  have c4_4 := (blk_cell B4.out 4).trans rfl
                  have hit := HIT.out (n.f4.getD kkd z46) (getD_mem n.f4 _ kkd hltd)
                  obtain ⟨yad, ycs, rfl, _, yK, ycc⟩ := Kd.C_get nG4.out z46 (kkd : Int) (by omega) (by omega)
                  have yK' := yK
                  obtain ⟨yA0, yc0, yA4, yc4, yA5, yc5, yA6, yc6, rfl, yl0, yg0, yl4, yg4, yl5, yg5, yl6, yg6⟩ := k46_open yK'
                  have yx0 := (HB.out.cell (World.block_lt_of_cell? w _ (ycc 0 _ rfl))).trans (ycc 0 _ rfl)
                  have yx1 := (HB.out.cell (World.block_lt_of_cell? w _ (ycc 1 _ rfl))).trans (ycc 1 _ rfl)
                  have yx2 := (HB.out.cell (World.block_lt_of_cell? w _ (ycc 2 _ rfl))).trans (ycc 2 _ rfl)
                  have yx3 := (HB.out.cell (World.block_lt_of_cell? w _ (ycc 3 _ rfl))).trans (ycc 3 _ rfl)
                  have yx4 := (HB.out.cell (World.block_lt_of_cell? w _ (ycc 4 _ rfl))).trans (ycc 4 _ rfl)
                  have yx5 := (HB.out.cell (World.block_lt_of_cell? w _ (ycc 5 _ rfl))).trans (ycc 5 _ rfl)
                  have yx6 := (HB.out.cell (World.block_lt_of_cell? w _ (ycc 6 _ rfl))).trans (ycc 6 _ rfl)
                  rw [show (k46).sz = 7 from rfl, Nat.add_zero, Int.toNat_natCast] at yx0
                  rw [show (k46).sz = 7 from rfl, Int.toNat_natCast, add_field _ _ 1 (by omega)] at yx1
                  rw [show (k46).sz = 7 from rfl, Int.toNat_natCast, add_field _ _ 2 (by omega)] at yx2
                  rw [show (k46).sz = 7 from rfl, Int.toNat_natCast, add_field _ _ 3 (by omega)] at yx3
                  rw [show (k46).sz = 7 from rfl, Int.toNat_natCast, add_field _ _ 4 (by omega)] at yx4
                  rw [show (k46).sz = 7 from rfl, Int.toNat_natCast, add_field _ _ 5 (by omega)] at yx5
                  rw [show (k46).sz = 7 from rfl, Int.toNat_natCast, add_field _ _ 6 (by omega)] at yx6
                  clear ycc
                  try simp only [Int.toNat_natCast] at yx0 yx1 yx2 yx3 yx4 yx5 yx6 yK yl0 yg0 yl4 yg4 yl5 yg5 yl6 yg6
                  generalize Yy0 : n.f4.getD kkd z46 = y at hit yx0 yx1 yx2 yx3 yx4 yx5 yx6 yK yl0 yg0 yl4 yg4 yl5 yg5 yl6 yg6
                  have Yy := Aside0.mk Yy0; clear Yy0
                  have yL0 := Aside0.mk yl0; have yG0 := Aside0.mk yg0; clear yl0 yg0
                  have yL4 := Aside0.mk yl4; have yG4 := Aside0.mk yg4; clear yl4 yg4
                  have yL5 := Aside0.mk yl5; have yG5 := Aside0.mk yg5; clear yl5 yg5
                  have yL6 := Aside0.mk yl6; have yG6 := Aside0.mk yg6; clear yl6 yg6
                  have HITY := Aside0.mk hit; clear hit yK
                  by_cases e1 : y.f1.length = 0
                  · have t1 : ((y.f1.length : Int) == 0) = true := by rw [e1]; rfl
                    by_cases e4 : y.f0.f1.f0 = 4
                    · have t4 : (y.f0.f1.f0 == 4) = true := by rw [e4]; rfl
                      have HIN := Aside0.mk ((inB_iff _ _).2 (HITY.out e1 e4))
                      have hh := fun (W : World) (hC : Kd.string.C W A l.length l) => has_calls A c l y.f0.f1.f1 W hC HLC.out (by have := HVN.out; omega)
                      simp only [HIN.out] at hh
                      clear e1 e4 HITY
                      go_wp2_with ((with_reducible refine gate_store (t := 46) (p := 9) rfl ?_); refine store_whole rfl rfl 46 _ _ rfl wr.heap.size _ 46 rfl (blk_new _ _) _ rfl rfl rfl (by simp [Value.oneCell']) ?_; intro w2 hb2 hg2; replace B1 := Aside0.mk (blk_as B1.out hg2); replace B4 := Aside0.mk (blk_as B4.out hg2); replace HB := Aside0.mk (below_as HB.out hg2); replace HC := Aside0.mk (C_as HC.out hg2); obtain ⟨g9, hq_⟩ : ∃ g_, g_ = wr.heap.size := ⟨_, rfl⟩; rw [← hq_] at hb2; rw [← hq_]; have B9 := Aside0.mk hb2; clear hb2 hg2 hq_; have c9_0 := (blk_cell B9.out 0).trans rfl; have c9_1 := (blk_cell B9.out 1).trans rfl; have c9_2 := (blk_cell B9.out 2).trans rfl; have c9_3 := (blk_cell B9.out 3).trans rfl; have c9_4 := (blk_cell B9.out 4).trans rfl; have c9_5 := (blk_cell B9.out 5).trans rfl; have c9_6 := (blk_cell B9.out 6).trans rfl)
                      refine (hh _ HC.out).mono ?_
                      rintro e w6 ⟨rfl, ⟨nd, rfl⟩⟩
                      have HB_ := Aside0.mk (pw_below_drewN HB.out nd); clear HB
                      have HC_ := Aside0.mk (Kd.C_drewN HC.out nd); clear HC
                      have B1_ := Aside0.mk (blk_drewN B1.out nd); clear B1
                      have B4_ := Aside0.mk (blk_drewN B4.out nd); clear B4
                      clear hh B9 c9_0 c9_1 c9_2 c9_3 c9_4 c9_5 c9_6 c4_0 c4_1 c4_2 c4_3 c4_4
                      generalize w2.drewN nd = w7 at HB_ HC_ B1_ B4_ ⊢
                      have HB := HB_; clear HB_
                      have HC := HC_; clear HC_
                      have B1 := B1_; clear B1_
                      have B4 := B4_; clear B4_
                      go_wp2_with fail
                      go_roundg (n.f4.length - (kkd + 1))
                      case measure => omega
                      case rel => exact ⟨kkd + 1, by omega, by omega, by go_num, HB, B1, B4, HC⟩
                    · have t4 : (y.f0.f1.f0 == 4) = false := ne_bool e4
                      clear e1 e4 HITY
                      go_wp2_with ((with_reducible refine gate_store (t := 46) (p := 9) rfl ?_); refine store_whole rfl rfl 46 _ _ rfl wr.heap.size _ 46 rfl (blk_new _ _) _ rfl rfl rfl (by simp [Value.oneCell']) ?_; intro w2 hb2 hg2; replace B1 := Aside0.mk (blk_as B1.out hg2); replace B4 := Aside0.mk (blk_as B4.out hg2); replace HB := Aside0.mk (below_as HB.out hg2); replace HC := Aside0.mk (C_as HC.out hg2); obtain ⟨g9, hq_⟩ : ∃ g_, g_ = wr.heap.size := ⟨_, rfl⟩; rw [← hq_] at hb2; rw [← hq_]; have B9 := Aside0.mk hb2; clear hb2 hg2 hq_; have c9_0 := (blk_cell B9.out 0).trans rfl; have c9_1 := (blk_cell B9.out 1).trans rfl; have c9_2 := (blk_cell B9.out 2).trans rfl; have c9_3 := (blk_cell B9.out 3).trans rfl; have c9_4 := (blk_cell B9.out 4).trans rfl; have c9_5 := (blk_cell B9.out 5).trans rfl; have c9_6 := (blk_cell B9.out 6).trans rfl)
                      clear B9 c9_0 c9_1 c9_2 c9_3 c9_4 c9_5 c9_6 c4_0 c4_1 c4_2 c4_3 c4_4
                      go_roundg (n.f4.length - (kkd + 1))
                      case measure => omega
                      case rel => exact ⟨kkd + 1, by omega, by omega, by go_num, HB, B1, B4, HC⟩
                  · have t1 : ((y.f1.length : Int) == 0) = false := beq_eq_false_iff_ne.2 (by omega)
                    clear e1 HITY
                    go_wp2_with ((with_reducible refine gate_store (t := 46) (p := 9) rfl ?_); refine store_whole rfl rfl 46 _ _ rfl wr.heap.size _ 46 rfl (blk_new _ _) _ rfl rfl rfl (by simp [Value.oneCell']) ?_; intro w2 hb2 hg2; replace B1 := Aside0.mk (blk_as B1.out hg2); replace B4 := Aside0.mk (blk_as B4.out hg2); replace HB := Aside0.mk (below_as HB.out hg2); replace HC := Aside0.mk (C_as HC.out hg2); obtain ⟨g9, hq_⟩ : ∃ g_, g_ = wr.heap.size := ⟨_, rfl⟩; rw [← hq_] at hb2; rw [← hq_]; have B9 := Aside0.mk hb2; clear hb2 hg2 hq_; have c9_0 := (blk_cell B9.out 0).trans rfl; have c9_1 := (blk_cell B9.out 1).trans rfl; have c9_2 := (blk_cell B9.out 2).trans rfl; have c9_3 := (blk_cell B9.out 3).trans rfl; have c9_4 := (blk_cell B9.out 4).trans rfl; have c9_5 := (blk_cell B9.out 5).trans rfl; have c9_6 := (blk_cell B9.out 6).trans rfl)
                    clear B9 c9_0 c9_1 c9_2 c9_3 c9_4 c9_5 c9_6 c4_0 c4_1 c4_2 c4_3 c4_4
                    go_roundg (n.f4.length - (kkd + 1))
                    case measure => omega
                    case rel => exact ⟨kkd + 1, by omega, by omega, by go_num, HB, B1, B4, HC⟩
                · have hltzd : ¬ (kkd : Int) < (n.f4.length : Int) := by omega
                  obtain rfl : kkd = n.f4.length := by omega
                  have c4_0 := (blk_cell B4.out 0).trans rfl
                  have c4_1 := (blk_cell B4.out 1).trans rfl
                  have c4_2 := (blk_cell B4.out 2).trans rfl
                  have c4_3 := (blk_cell B4.out 3).trans rfl
                  have c4_4 := (blk_cell B4.out 4).trans rfl
                  go_wp2_with fail
                  clear HC B4 c4_0 c4_1 c4_2 c4_3 c4_4
                  go_roundg (ns.length - (kka + 1))
                  case measure => omega
                  case rel => exact ⟨kka + 1, by omega, by omega, by go_num, HB, B1⟩
    · have hltza : ¬ (kka : Int) < (ns.length : Int) := by omega
      obtain rfl : kka = ns.length := by omega
      have c1_0 := (blk_cell B1.out 0).trans rfl
      have c1_1 := (blk_cell B1.out 1).trans rfl
      go_wp2_with fail
      go_ret
      exact ⟨rfl, HB.out⟩

end Go.Proofs.Ytcekbkbhaceilaa
