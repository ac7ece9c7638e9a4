/- Two digests compared; contract of the document's Same. -/
import Derived.Test.YtecmhkkjobflcaaVerKnown
import Derived.Stop.BytesEq
import Derived.Deep.QuietTactic
import Derived.BigQuiet
namespace Go.Proofs.Ytecmhkkjobflcaa.Ver
open Go.RowKit Go.WideMaps Go.Maps
set_option linter.unusedVariables false
set_option linter.unusedSimpArgs false
set_option maxRecDepth 100000

open Extern.Stop (cell)
def toU (h : List Int) : List UInt8 := h.map (fun x => UInt8.ofNat x.toNat)
theorem byte_bd {x : Int} (h : (Lit.int .u8 x).wf = true) : 0 ≤ x ∧ x ≤ 255 := by
  have h1 : IntKind.u8.min = 0 := rfl
  have h2 : IntKind.u8.max = 255 := rfl
  simp only [Lit.wf, Bool.and_eq_true, decide_eq_true_eq] at h
  omega
theorem back {x : Int} (h : (Lit.int .u8 x).wf = true) : Int.ofNat (UInt8.ofNat x.toNat).toNat = x := by
  obtain ⟨h0, h1⟩ := byte_bd h
  have : (UInt8.ofNat x.toNat).toNat = x.toNat := by
    rw [UInt8.toNat_ofNat']
    exact Nat.mod_eq_of_lt (by omega)
  rw [this]
  exact Int.toNat_of_nonneg h0
theorem cs_toU {h : List Int} (hb : ∀ x ∈ h, (Lit.int .u8 x).wf = true) : cs h = (toU h).map cell := by
  unfold cs toU
  rw [List.map_map]
  apply List.map_congr_left
  intro x hx
  simp only [Function.comp, cell, back (hb x hx)]
theorem toU_inj {a b : List Int} (A : IsHash a) (B : IsHash b) : (toU a == toU b) = (a == b) := by
  rw [Bool.eq_iff_iff, beq_iff_eq, beq_iff_eq]
  constructor
  · intro h
    have : cs a = cs b := by rw [cs_toU A.byte, cs_toU B.byte, h]
    exact cs_inj this
  · intro h; rw [h]
theorem eqIn_hash {a b : List Int} (A : IsHash a) (B : IsHash b) (w : World) : (Op.equalIn 10000 48 (.agg (cs a).toArray) (.agg (cs b).toArray)).run Try.prog w = .ok (a == b) w := by
  have h := run_equalIn_bytes (P := Try.prog) w 9998 48 5 32 Try.underlying48 Try.underlying5 (fun w => by kernel_rfl) (toU a) (toU b) (by unfold toU; rw [List.length_map, A.len]) (by unfold toU; rw [List.length_map, B.len])
  rw [← cs_toU A.byte, ← cs_toU B.byte, toU_inj A B] at h
  exact h
theorem neq_hash {a b : List Int} (A : IsHash a) (B : IsHash b) (w : World) : (binOp .neq 48 (.agg (cs a).toArray) (.agg (cs b).toArray)).run Try.prog w = .ok (.bool (!(a == b))) w := by
  rw [run_neq_struct, eqIn_hash A B]; rfl
theorem eql_hash {a b : List Int} (A : IsHash a) (B : IsHash b) (w : World) : (binOp .eql 48 (.agg (cs a).toArray) (.agg (cs b).toArray)).run Try.prog w = .ok (.bool (a == b)) w := by
  rw [run_eql_struct, eqIn_hash A B]; rfl

/-- The digests of a slice. -/
def Lies (w : World) (a : Option Addr) (xs : List (List Int)) : Prop := 0 < xs.length → ∃ g off, a = some ⟨g, off, none⟩ ∧ ∀ i x, xs[i]? = some x → w.rangeAt g (off + i * 32) (cs x)

set_option maxHeartbeats 2000000 in
theorem same_c (xs ys : List (List Int)) (hx : ∀ x ∈ xs, IsHash x) (hy : ∀ y ∈ ys, IsHash y) (hl : xs.length ≤ 1000) (a b : Option Addr) (ca cb : Nat) (w : World) (la : Lies w a xs) (lb : Lies w b ys) :
    Calls Try.prog 35 #[.slice a xs.length ca, .slice b ys.length cb] w fun e w' => e = .returned (.bool (xs == ys)) ∧ ∃ k, w' = w.drewN k := by
  by_cases hne : xs.length = ys.length
  · have hu := Try.underlying48
    obtain ⟨n, hn⟩ : ∃ n, xs.length = n := ⟨_, rfl⟩
    have hm := hne.symm.trans hn
    rw [hn] at hl
    rw [hn, hm]
    have hnX : Hid (xs.length = n) := hn
    have hmX : Hid (ys.length = n) := hm
    clear hne hn hm
    go_enter Try.func35, Try.ntmps35
    go_wp2_with fail
    go_loopw [5] (fun i wz => ∃ k m : Nat, k ≤ n ∧ i = .int .i64 k ∧ wz = w.drewN m ∧ Hid (xs.take k = ys.take k)) (fun i _ => n - (intOf i).toNat)
    case atStart => exact ⟨0, 0, Nat.zero_le _, rfl, rfl, rfl⟩
    case round =>
      obtain ⟨k, m, hk, rfl, rfl, hT⟩ := hrel
      obtain ⟨W, hE⟩ : ∃ W, W = w.drewN m := ⟨_, rfl⟩
      rw [← hE]
      have hW : Hid (W = w.drewN m) := hE
      by_cases hkn : k < n
      · obtain ⟨g, off, rfl, fa⟩ := la (by rw [hnX.out]; omega)
        obtain ⟨g2, off2, rfl, fb⟩ := lb (by rw [hmX.out]; omega)
        have hkx : k < xs.length := by rw [hnX.out]; exact hkn
        have hky : k < ys.length := by rw [hmX.out]; exact hkn
        have ra : W.drew.rangeAt g (off + k * 32) (cs xs[k]) := by rw [hE]; exact fa k _ (List.getElem?_eq_getElem hkx)
        have rb : W.drew.rangeAt g2 (off2 + k * 32) (cs ys[k]) := by rw [hE]; exact fb k _ (List.getElem?_eq_getElem hky)
        have A := hx _ (List.getElem_mem hkx)
        have B := hy _ (List.getElem_mem hky)
        have hS : Hid (xs.take (k + 1) = xs.take k ++ [xs[k]] ∧ ys.take (k + 1) = ys.take k ++ [ys[k]]) := ⟨by rw [List.take_append_getElem hkx], by rw [List.take_append_getElem hky]⟩
        have hin : Hid (xs[k] = ys[k] ∨ ¬ xs = ys) := by
          by_cases e : xs[k] = ys[k]
          · exact .inl e
          · right; intro h; subst h; exact e rfl
        obtain ⟨x, hxk⟩ : ∃ x, xs[k] = x := ⟨_, rfl⟩
        obtain ⟨y, hyk⟩ : ∃ y, ys[k] = y := ⟨_, rfl⟩
        rw [hxk] at ra A hin hS
        rw [hyk] at rb B hin hS
        have hia : (Try.prog.info? 48).map (·.size) = some (cs x).length := by rw [sizeHash, cs_len A]
        have hib : (Try.prog.info? 48).map (·.size) = some (cs y).length := by rw [sizeHash, cs_len B]
        have hq := neq_hash A B
        clear fa fb hE hxk hyk hkx hky
        by_cases exy : x = y
        · subst exy
          have hq2 : ∀ w : World, (binOp .neq 48 (.agg (cs x).toArray) (.agg (cs x).toArray)).run Try.prog w = .ok (.bool false) w := fun w => by rw [hq w]; simp
          clear hq
          go_wp2_with fail
          refine wp_region_noPanic ?_
          refine wp_region_held_drew (S := fun wz => wz.rangeAt g (off + k * 32) (cs x) ∧ wz.rangeAt g2 (off2 + k * 32) (cs x)) (by kernel_rfl) ⟨ra, rb⟩ (fun hHeld => ?_)
          refine wpAnyH_take (i := 0) (v := ?_) rfl (by kernel_rfl) (by kernel_rfl) (by kernel_rfl) (fun _ _ _ h => h) (Or.inl ⟨by rfl, ?_⟩) hHeld ?_
          rotate_left
          · intro w hSw; go_simp; first | done | with_reducible rfl
          try simp only [Act.put, List.setIfInBounds_toArray, List.set_cons_zero, List.set_cons_succ]
          refine wpAnyH_take (i := 1) (v := ?_) rfl (by kernel_rfl) (by kernel_rfl) (by kernel_rfl) (fun _ _ _ h => h) (Or.inl ⟨by rfl, ?_⟩) hHeld ?_
          rotate_left
          · intro w hSw; go_simp; first | done | with_reducible rfl
          try simp only [Act.put, List.setIfInBounds_toArray, List.set_cons_zero, List.set_cons_succ]
          refine wpAnyH_take (i := 2) (v := ?_) rfl (by kernel_rfl) (by kernel_rfl) (by kernel_rfl) (fun _ _ _ h => h) (Or.inl ⟨by rfl, ?_⟩) hHeld ?_
          rotate_left
          · intro w hSw; go_simp; first | done | with_reducible rfl
          try simp only [Act.put, List.setIfInBounds_toArray, List.set_cons_zero, List.set_cons_succ]
          refine' wpAnyH_take (i := 3) (v := _) rfl (by kernel_rfl) (by kernel_rfl) (by kernel_rfl) (fun _ _ _ h => h) (yieldsIf_load_mid (by rfl) _ _ rfl _ _ rfl _ _ (fun _ hSw => hSw.1) hu rfl hia) hHeld ?_
          try simp only [Act.put, List.setIfInBounds_toArray, List.set_cons_zero, List.set_cons_succ]
          refine wpAnyH_take (i := 4) (v := ?_) rfl (by kernel_rfl) (by kernel_rfl) (by kernel_rfl) (fun _ _ _ h => h) (Or.inl ⟨by rfl, ?_⟩) hHeld ?_
          rotate_left
          · intro w hSw; go_simp; first | done | with_reducible rfl
          try simp only [Act.put, List.setIfInBounds_toArray, List.set_cons_zero, List.set_cons_succ]
          refine wpAnyH_take (i := 5) (v := ?_) rfl (by kernel_rfl) (by kernel_rfl) (by kernel_rfl) (fun _ _ _ h => h) (Or.inl ⟨by rfl, ?_⟩) hHeld ?_
          rotate_left
          · intro w hSw; go_simp; first | done | with_reducible rfl
          try simp only [Act.put, List.setIfInBounds_toArray, List.set_cons_zero, List.set_cons_succ]
          refine wpAnyH_take (i := 6) (v := ?_) rfl (by kernel_rfl) (by kernel_rfl) (by kernel_rfl) (fun _ _ _ h => h) (Or.inl ⟨by rfl, ?_⟩) hHeld ?_
          rotate_left
          · intro w hSw; go_simp; first | done | with_reducible rfl
          try simp only [Act.put, List.setIfInBounds_toArray, List.set_cons_zero, List.set_cons_succ]
          refine' wpAnyH_take (i := 7) (v := _) rfl (by kernel_rfl) (by kernel_rfl) (by kernel_rfl) (fun _ _ _ h => h) (yieldsIf_load_mid (by rfl) _ _ rfl _ _ rfl _ _ (fun _ hSw => hSw.2) hu rfl hib) hHeld ?_
          try simp only [Act.put, List.setIfInBounds_toArray, List.set_cons_zero, List.set_cons_succ]
          refine wpAnyH_ready (rs := [8]) (by kernel_rfl) (by simp) ?_
          refine AllReadyH.cons rfl (fun K hK => ?_) AllReadyH.nil
          go_simp
          refine hK.out _ _ hHeld (fun hHeld4 => ?_)
          clear hK K
          refine wpAnyH_done (by kernel_rfl) ?_ _
          refine NoPanic.normal ?_
          try simp only [Act.put, List.setIfInBounds_toArray, List.set_cons_zero, List.set_cons_succ]
          go_wp2_with fail
          go_roundw
          case rel => exact ⟨k + 1, m + 1, by omega, by go_num, by rw [hW.out]; rfl, by show xs.take (k + 1) = ys.take (k + 1); rw [hS.out.1, hS.out.2, hT.out]⟩
          case measure => simp [intOf]; omega
        · have hq2 : ∀ w : World, (binOp .neq 48 (.agg (cs x).toArray) (.agg (cs y).toArray)).run Try.prog w = .ok (.bool true) w := fun w => by rw [hq w]; simp [exy]
          clear hq
          have hxy : (xs == ys) = false := by
            rcases hin.out with h | h
            · exact absurd h exy
            · simpa using h
          go_wp2_with fail
          refine wp_region_noPanic ?_
          refine wp_region_held_drew (S := fun wz => wz.rangeAt g (off + k * 32) (cs x) ∧ wz.rangeAt g2 (off2 + k * 32) (cs y)) (by kernel_rfl) ⟨ra, rb⟩ (fun hHeld => ?_)
          refine wpAnyH_take (i := 0) (v := ?_) rfl (by kernel_rfl) (by kernel_rfl) (by kernel_rfl) (fun _ _ _ h => h) (Or.inl ⟨by rfl, ?_⟩) hHeld ?_
          rotate_left
          · intro w hSw; go_simp; first | done | with_reducible rfl
          try simp only [Act.put, List.setIfInBounds_toArray, List.set_cons_zero, List.set_cons_succ]
          refine wpAnyH_take (i := 1) (v := ?_) rfl (by kernel_rfl) (by kernel_rfl) (by kernel_rfl) (fun _ _ _ h => h) (Or.inl ⟨by rfl, ?_⟩) hHeld ?_
          rotate_left
          · intro w hSw; go_simp; first | done | with_reducible rfl
          try simp only [Act.put, List.setIfInBounds_toArray, List.set_cons_zero, List.set_cons_succ]
          refine wpAnyH_take (i := 2) (v := ?_) rfl (by kernel_rfl) (by kernel_rfl) (by kernel_rfl) (fun _ _ _ h => h) (Or.inl ⟨by rfl, ?_⟩) hHeld ?_
          rotate_left
          · intro w hSw; go_simp; first | done | with_reducible rfl
          try simp only [Act.put, List.setIfInBounds_toArray, List.set_cons_zero, List.set_cons_succ]
          refine' wpAnyH_take (i := 3) (v := _) rfl (by kernel_rfl) (by kernel_rfl) (by kernel_rfl) (fun _ _ _ h => h) (yieldsIf_load_mid (by rfl) _ _ rfl _ _ rfl _ _ (fun _ hSw => hSw.1) hu rfl hia) hHeld ?_
          try simp only [Act.put, List.setIfInBounds_toArray, List.set_cons_zero, List.set_cons_succ]
          refine wpAnyH_take (i := 4) (v := ?_) rfl (by kernel_rfl) (by kernel_rfl) (by kernel_rfl) (fun _ _ _ h => h) (Or.inl ⟨by rfl, ?_⟩) hHeld ?_
          rotate_left
          · intro w hSw; go_simp; first | done | with_reducible rfl
          try simp only [Act.put, List.setIfInBounds_toArray, List.set_cons_zero, List.set_cons_succ]
          refine wpAnyH_take (i := 5) (v := ?_) rfl (by kernel_rfl) (by kernel_rfl) (by kernel_rfl) (fun _ _ _ h => h) (Or.inl ⟨by rfl, ?_⟩) hHeld ?_
          rotate_left
          · intro w hSw; go_simp; first | done | with_reducible rfl
          try simp only [Act.put, List.setIfInBounds_toArray, List.set_cons_zero, List.set_cons_succ]
          refine wpAnyH_take (i := 6) (v := ?_) rfl (by kernel_rfl) (by kernel_rfl) (by kernel_rfl) (fun _ _ _ h => h) (Or.inl ⟨by rfl, ?_⟩) hHeld ?_
          rotate_left
          · intro w hSw; go_simp; first | done | with_reducible rfl
          try simp only [Act.put, List.setIfInBounds_toArray, List.set_cons_zero, List.set_cons_succ]
          refine' wpAnyH_take (i := 7) (v := _) rfl (by kernel_rfl) (by kernel_rfl) (by kernel_rfl) (fun _ _ _ h => h) (yieldsIf_load_mid (by rfl) _ _ rfl _ _ rfl _ _ (fun _ hSw => hSw.2) hu rfl hib) hHeld ?_
          try simp only [Act.put, List.setIfInBounds_toArray, List.set_cons_zero, List.set_cons_succ]
          refine wpAnyH_ready (rs := [8]) (by kernel_rfl) (by simp) ?_
          refine AllReadyH.cons rfl (fun K hK => ?_) AllReadyH.nil
          go_simp
          refine hK.out _ _ hHeld (fun hHeld4 => ?_)
          clear hK K
          refine wpAnyH_done (by kernel_rfl) ?_ _
          refine NoPanic.normal ?_
          try simp only [Act.put, List.setIfInBounds_toArray, List.set_cons_zero, List.set_cons_succ]
          go_wp2_with fail
          go_returns
          exact ⟨by rw [hxy]; rfl, m + 1, by rw [hW.out]; rfl⟩
      · obtain rfl : k = n := by omega
        have e1 := hT.out
        rw [← hnX.out, List.take_length] at e1
        have hyl : xs.length = ys.length := hnX.out.trans hmX.out.symm
        rw [hyl, List.take_length] at e1
        clear hE
        go_wp2_with fail
        go_returns
        exact ⟨by rw [e1]; simp, m, hW.out⟩
  · have hnl : ((xs.length : Int) != ys.length) = true := by rw [bne_iff_ne]; omega
    have hxy : (xs == ys) = false := by rw [beq_eq_false_iff_ne]; intro h; exact hne (by rw [h])
    go_enter Try.func35, Try.ntmps35
    go_wp2_with fail
    go_returns
    exact ⟨by rw [hxy]; rfl, 0, rfl⟩
end Go.Proofs.Ytecmhkkjobflcaa.Ver
