/- The head of layer 18's statements. Conditions as each theorem has them. -/
import Derived.Test.YtgefggokgjneoaaHeap8
namespace Go.Proofs.Ytgefggokgjneoaa.QT
open Go.RowKit Go.Proofs.YtgefggokgjneoaaW.PrintWords Go.Proofs.YtgefggokgjneoaaW.PrintLast Go.Proofs.YtgefggokgjneoaaW.PrintMore
attribute [local go_sem] max2_int min2_int max_two min_two max_three min_three max_four min_four ta27  -- for this text's walks alone
set_option linter.unusedVariables false
set_option linter.unusedSimpArgs false
section
variable {w0 w : World} {P : Nat → Prop} {g : Nat} {T : TypeId} {rest : List Value} {A : Option Addr} {c : Nat} {l : List S27}
def hsc : Nat → Int
  | 0 => 3
  | 1 => 5
  | _ => 4
def hadds : Nat → List S27
  | 0 => []
  | n + 1 => addL (hadds n) 2 ⟨0, 0, hsc n⟩
theorem hadds_len (n : Nat) (h : n ≤ 3) : (hadds n).length ≤ 2 := by
  rcases n with _ | _ | _ | _ | n
  all_goals first | decide | omega
theorem hrows : rowsL (hadds 3) = [⟨0, 0, 5⟩, ⟨0, 0, 4⟩] := by kernel_rfl
theorem hlen3 : (hadds 3).length = 2 := by decide
structure HD (w : World) (ob : Nat) (w' : World) (g : Nat) (A : Option Addr) (c : Nat) (m : List S27) : Prop where
  hs : HS w (fun q => q ≠ ob) w' g 43 [.int .i64 ((2 : Nat) : Int)] A c m
  lit : w'.heap[ob]? = some (.cells #[.int .i64 3, .int .i64 5, .int .i64 4] 3)
  below : Below w.heap.size w w'
theorem HD.moved {ob : Nat} {w1 w2 : World} {m m2 : List S27} {A2 : Option Addr} {c2 : Nat} (h : HD w ob w1 g A c m) (k : Moved w w1 (fun q => q ≠ ob) w2 g 43 [.int .i64 ((2 : Nat) : Int)] A2 c2 m2) : HD w ob w2 g A2 c2 m2 :=
  ⟨k.hs.mono (fun q hq => hq.elim id (fun hq => by have := blk_lt h.lit; omega)), blk_kept h.lit k.kept (fun hn => hn rfl), k.below⟩
theorem HD.cell {ob : Nat} {w1 : World} {m : List S27} (h : HD w ob w1 g A c m) (i : Nat) (hi : i < 3) : w1.cell? ⟨ob, i, none⟩ = some (.int .i64 (hsc i)) := by
  rw [blk_cell h.lit i]
  rcases i with _ | _ | _ | i
  · rfl
  · rfl
  · rfl
  · omega
theorem HD.start {w1 : World} (h : HS w (fun k => w.heap.size ≤ k) w1 g 43 [.int .i64 2] none 0 []) (hb : Below w.heap.size w w1) : HD w w1.heap.size (w1.alloc (.cells #[.int .i64 3, .int .i64 5, .int .i64 4] 3)) g none 0 [] := by
  have hlt := h.lt
  refine ⟨⟨h.base, by omega, blk_alloc h.blk _, Kd.R_nil _ _ _ _ _⟩, blk_new w1 _, below_alloc hb _⟩
theorem two_out {w1 : World} {base : Nat} {ok : Nat → Prop} {A' : Option Addr} {c' : Nat} {x y : S27} (hr : Kd.R k27 27 w1 base ok (.slice A' ([x, y] : List S27).length c') [x, y]) :
    ∃ b, A' = some ⟨b, 0, none⟩ ∧ w1.cell? ⟨b, 2, none⟩ = some (.int .i64 x.f2) ∧ w1.cell? ⟨b, 5, none⟩ = some (.int .i64 y.f2) := by
  obtain ⟨b, cap, hv, _, _, _⟩ := Kd.R_form hr (by simp)
  injection hv with h1 h2 h3
  subst h1
  obtain ⟨ce, hcl, hM, hcc, hfr⟩ := Kd.R_elem hr z27 (0 : Int) (by omega) (by simp)
  obtain rfl := k27_openM hM
  obtain ⟨ce1, hcl1, hM1, hcc1, hfr1⟩ := Kd.R_elem hr z27 (1 : Int) (by omega) (by simp)
  obtain rfl := k27_openM hM1
  have h0 := hcc 2 _ rfl
  have h1 := hcc1 2 _ rfl
  exact ⟨b, rfl, h0, h1⟩
set_option maxHeartbeats 1000000 in
set_option maxRecDepth 100000 in
theorem head_calls : Calls Try.prog 8 #[] w fun e w' => e = .returned (.bool true) ∧ Below w.heap.size w w' := by
  have HN := Aside0.mk (new_calls (w0 := w) (w := w) 2 (by omega) (by omega) (Below.refl _ _))
  rw [if_pos (by omega)] at HN
  go_enter Try.func8, Try.ntmps8
  go_wp2_with (go_at_call 9; refine HN.out.mono ?_; rintro e w1 ⟨g, rfl, hg, hs, hb, _⟩; have HD0 := Aside0.mk (HD.start hs hb); clear hs hb HN)
  go_loopg [8] 4 (fun gk v8 w' => ∃ (i : Nat) (A : Option Addr) (c : Nat), v8 = .int .i64 (i : Int) ∧ Aside0 (i ≤ 3 ∧ 3 < i + gk) ∧ Aside0 (HD w w1.heap.size w' g A c (hadds i)))
  case atStart => exact ⟨0, none, 0, rfl, ⟨by omega, by omega⟩, HD0⟩
  case round =>
    clear HD0
    obtain ⟨i, A, c, rfl, HI, HH⟩ := hrel
    obtain ⟨gk, rfl⟩ : ∃ k, gk = k + 1 := ⟨gk - 1, by have := HI.out; omega⟩
    by_cases hi : i < 3
    · have hil : (i : Int) < 3 := by omega
      have hi0 : (0 : Int) ≤ (i : Int) := by omega
      have hib : (i : Int) ≤ 1099511627776 := by omega
      have hx := HH.out.cell i hi
      have HC2 := Aside0.mk (add_calls HH.out.hs HH.out.below ⟨0, 0, hsc i⟩ (by have := hadds_len i (by omega); omega) (by omega))
      unfold enc27 at HC2
      go_wp2_with (go_at_call 11; refine HC2.out.mono ?_; rintro e w3 ⟨rfl, A2, c2, hmv⟩; have HH2 := Aside0.mk (HD.moved HH.out hmv); clear hmv HC2 HH)
      go_roundg gk
      case measure => omega
      case rel => exact ⟨i + 1, A2, c2, (by first | rfl | (congr 1; omega) | simp), ⟨by omega, by have := HI.out; omega⟩, HH2⟩
    · obtain rfl : i = 3 := by have := HI.out; omega
      have HC3 := Aside0.mk (rows_calls HH.out.hs (by rw [hlen3]; omega))
      rw [hrows] at HC3
      have HT := Aside0.mk HH.out.hs
      go_wp2_with (first
        | (go_at_call 13; refine HC3.out.mono ?_; rintro e w4 ⟨A', c', rfl, hr, hb⟩; have HS4 := Aside0.mk (HT.out.below hb); have HB4 := Aside0.mk (below_then HH.out.below HH.out.below.size hb); obtain ⟨b, hA, hx0, hx1⟩ := two_out hr; subst hA; clear hr hb HC3; have HC4 := Aside0.mk (tlen_calls HS4.out); rw [hlen3] at HC4)
        | (go_at_call 14; refine HC4.out.mono ?_; rintro e w5 ⟨rfl, hb⟩; have HB5 := Aside0.mk (below_then HB4.out HB4.out.size hb); clear hb HC4))
      go_ret
      exact ⟨rfl, HB5.out⟩
end
end Go.Proofs.Ytgefggokgjneoaa.QT
