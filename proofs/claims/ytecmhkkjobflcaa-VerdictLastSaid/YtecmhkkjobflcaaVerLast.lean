/- VerdictLast returns true, whatever the room and the digests; nothing that was there is changed. No condition. -/
import Derived.Test.YtecmhkkjobflcaaVerAwake
import Derived.Test.YtecmhkkjobflcaaVerLastP
namespace Go.Proofs.Ytecmhkkjobflcaa.Ver
open Go.RowKit Go.WideMaps Go.Maps
set_option linter.unusedVariables false
set_option linter.unusedSimpArgs false
set_option maxRecDepth 100000

/-- What the digests' row holds. -/
def Hashes (w : World) (a : Option Addr) (len : Nat) : Prop := 0 < len → ∃ b off, a = some ⟨b, off, none⟩ ∧ b < w.heap.size ∧ ∀ j, j < len → ∃ x : List Int, IsHash x ∧ w.rangeAt b (off + j * 32) (cs x)
/-- The rows of a call lie apart. -/
structure Apart (c g v : Option Nat) : Prop where
  cg : ∀ k, c = some k → g ≠ some k
  cv : ∀ k, c = some k → v ≠ some k
  gv : ∀ k, g = some k → v ≠ some k
theorem apart_ne {a b : Option Nat} (h : ∀ k, a = some k → b ≠ some k) : a = none ∨ a ≠ b := by
  cases a with
  | none => exact .inl rfl
  | some k => exact .inr (fun e => h k rfl e.symm)
theorem apart_ne2 {a b : Option Nat} (h : ∀ k, a = some k → b ≠ some k) : b = none ∨ b ≠ a := by
  cases b with
  | none => exact .inl rfl
  | some k => exact .inr (fun e => h k e.symm rfl)
theorem own_range {w : World} {B n : Nat} {e : TypeId} {v : Value} {xs : List Value} (h : w.ownsRow B e 32 v n xs) : ∀ k, v.ownBlock = some k → B ≤ k ∧ k < w.heap.size := fun k e => h.lt k e
theorem row_shape {w : World} {B n : Nat} {e : TypeId} {v : Value} {xs : List Value} (h : w.ownsRow B e 32 v n xs) : ∃ a cap, v = .slice a n cap := by
  rcases h.2 with ⟨hv, hl⟩ | ⟨g, cap, cur, hv, _⟩
  · exact ⟨none, 0, by rw [hv, hl]⟩
  · exact ⟨_, _, hv⟩
theorem row_addr {w : World} {B n : Nat} {e : TypeId} {a : Option Addr} {cap : Nat} {xs : List Value} (h : w.ownsRow B e 32 (.slice a n cap) n xs) (hn : 0 < n) : ∃ g, a = some ⟨g, 0, none⟩ := by
  obtain ⟨g, c, hv, _⟩ := h.form hn
  injection hv with h1
  exact ⟨g, h1⟩
theorem own_same {w w' : World} {B n size : Nat} {e : TypeId} {v : Value} {xs : List Value} (h : w.ownsRow B e size v n xs) (hs : ∀ k, v.ownBlock = some k → w'.heap[k]? = w.heap[k]?) : w'.ownsRow B e size v n xs := by
  obtain ⟨h1, h2⟩ := h
  refine ⟨h1, ?_⟩
  rcases h2 with h2 | ⟨g, cap, cur, hv, hg, hh, r⟩
  · exact .inl h2
  · exact .inr ⟨g, cap, cur, hv, hg, (hs g (by rw [hv]; rfl)).trans hh, r⟩
theorem own_below {w w' : World} {B n size : Nat} {e : TypeId} {v : Value} {xs : List Value} (h : w.ownsRow B e size v n xs) (hb : Below w.heap.size w w') : w'.ownsRow B e size v n xs :=
  own_same h fun k e => hb.block k (h.lt k e).2
theorem apart_c {c g v : Option Nat} (h : Apart c g v) {g2 H : Nat} (hat : c = some g2 ∨ g2 = H) (hg : ∀ k, g = some k → k < H) (hv : ∀ k, v = some k → k < H) : Apart (some g2) g v where
  cg := fun k e => by
    cases e
    rcases hat with h' | h'
    · exact h.cg _ h'
    · intro e; have := hg _ e; omega
  cv := fun k e => by
    cases e
    rcases hat with h' | h'
    · exact h.cv _ h'
    · intro e; have := hv _ e; omega
  gv := h.gv
theorem apart_g {c g v : Option Nat} (h : Apart c g v) {g2 H : Nat} (hat : g = some g2 ∨ g2 = H) (hc : ∀ k, c = some k → k < H) (hv : ∀ k, v = some k → k < H) : Apart c (some g2) v where
  cg := fun k e e2 => by
    cases e2
    rcases hat with h' | h'
    · exact h.cg _ e h'
    · have := hc _ e; omega
  cv := h.cv
  gv := fun k e => by
    cases e
    rcases hat with h' | h'
    · exact h.gv _ h'
    · intro e; have := hv _ e; omega
theorem apart_v {c g v v2 : Option Nat} (h : Apart c g v) {H : Nat} (ho : ∀ k, v2 = some k → some k = v ∨ H ≤ k) (hc : ∀ k, c = some k → k < H) (hg : ∀ k, g = some k → k < H) : Apart c g v2 where
  cg := h.cg
  cv := fun k e e2 => by
    rcases ho k e2 with h' | h'
    · exact h.cv k e h'.symm
    · have := hc k e; omega
  gv := fun k e e2 => by
    rcases ho k e2 with h' | h'
    · exact h.gv k e h'.symm
    · have := hg k e; omega
theorem news_ok (w : World) (xs : List Value) (T : TypeId) : ∀ j u, xs[j]? = some u → (w.alloc (.cells xs.toArray T)).cell? ((⟨w.heap.size, 0, none⟩ : Addr).add j) = some u := by
  have h := World.news_of_block (w := w.alloc (.cells xs.toArray T)) (B := w.heap.size) (cs := xs.toArray) (t := T) (fr := (0, 0)) (heap_alloc_new w _)
  simpa using h
theorem own_some {g k : Nat} (h : some g = some k) : k = g := by cases h; rfl
theorem run_hi (ca : Option Addr) (m cc z : Nat) (hz : z ≤ cc) (v : World) : (Instr.sliceAt 60 (.slice ca m cc) none (some (.int .i64 z)) none).run Try.prog v = .ok (sliced ca 0 z cc 32) v := by
  have he : Try.prog.elem 60 = 48 := by kernel_rfl
  have hs : (sizeOf 48).run Try.prog v = .ok 32 v := by kernel_rfl
  have hu2 : Try.prog.underlying 60 = some (.slice (Try.prog.elem 60)) := by rw [he]; exact Try.underlying60
  refine (run_sliceAt_slice (w := v) _ _ _ _ _ hu2).trans ?_
  refine (run_slice_h (w := v) _ _ _ _ hu2 _ _ (by omega) (by omega)).trans ?_
  rw [he, hs]
  simp [Result.andThen]
theorem run_lo (ca : Option Addr) (m cc z : Nat) (hz : z ≤ m) (v : World) : (Instr.sliceAt 60 (.slice ca m cc) (some (.int .i64 z)) none none).run Try.prog v = .ok (sliced ca z m cc 32) v := by
  have he : Try.prog.elem 60 = 48 := by kernel_rfl
  have hs : (sizeOf 48).run Try.prog v = .ok 32 v := by kernel_rfl
  have hu2 : Try.prog.underlying 60 = some (.slice (Try.prog.elem 60)) := by rw [he]; exact Try.underlying60
  refine (run_sliceAt_slice (w := v) _ _ _ _ _ hu2).trans ?_
  refine (run_slice_l (w := v) _ _ _ _ hu2 _ _ (by omega) (by omega)).trans ?_
  rw [he, hs]
  simp [Result.andThen]
/-- A row that is owned, cut in two. -/
theorem came_cut {w : World} {B m z cc : Nat} {ca : Option Addr} {cm : List (List Int)} (hx : ∀ x ∈ cm, IsHash x) (ho : w.ownsRow B 48 32 (.slice ca m cc) m (cm.flatMap cs)) (hm : cm.length = m) (hz : z ≤ m) :
    ∃ ch ct, (∀ v, (Instr.sliceAt 60 (.slice ca m cc) none (some (.int .i64 z)) none).run Try.prog v = .ok (.slice ch z cc) v) ∧ (∀ v, (Instr.sliceAt 60 (.slice ca m cc) (some (.int .i64 z)) none none).run Try.prog v = .ok (.slice ct (m - z) (cc - z)) v) ∧ ∀ W, Below w.heap.size w W → Lies W ch (cm.take z) ∧ Lies W ct (cm.drop z) := by
  rcases ho.2 with ⟨hv, h0⟩ | ⟨g, cap, cur, hv, hg, hh, hle, _⟩
  · injection hv with h1 h2 h3
    subst h1; subst h3
    obtain rfl : z = 0 := by omega
    have hc : cm = [] := List.length_eq_zero_iff.1 (by omega)
    subst hc
    refine ⟨none, none, fun v => ?_, fun v => ?_, fun W hW => ⟨fun h => by simp at h, fun h => by simp at h⟩⟩
    · rw [run_hi _ _ _ _ (by omega)]; simp [sliced]
    · rw [run_lo _ _ _ _ (by omega)]; simp [sliced]
  · injection hv with h1 h2 h3
    subst h1; subst h3
    have hl := (ho.lt g rfl).2
    refine ⟨some ⟨g, 0, none⟩, if cc = z then some ⟨g, 0, none⟩ else some ⟨g, 0 + z * 32, none⟩, fun v => ?_, fun v => ?_, fun W hW => ⟨?_, ?_⟩⟩
    · rw [run_hi _ _ _ _ (by omega)]; simp [sliced, Addr.add]
    · rw [run_lo _ _ _ _ (by omega)]; unfold sliced; split <;> simp [Addr.add_mid]
    · exact lies_take (lies_row hx (own_below ho hW)) z
    · by_cases e : cc = z
      · intro h
        rw [List.length_drop] at h
        omega
      · rw [if_neg e]
        exact lies_drop (lies_row hx (own_below ho hW)) z
theorem same_is (xs ys : List (List Int)) (hx : ∀ x ∈ xs, IsHash x) (hy : ∀ y ∈ ys, IsHash y) {n m : Nat} (hn : xs.length = n) (hm : ys.length = m) (hl : n ≤ 1000) (a b : Option Addr) (ca cb : Nat) (w : World) (la : Lies w a xs) (lb : Lies w b ys) {t : Bool} (ht : (xs == ys) = t) :
    Calls Try.prog 35 #[.slice a n ca, .slice b m cb] w fun e w' => e = .returned (.bool t) ∧ ∃ k, w' = w.drewN k := by
  subst hn; subst hm; subst ht; exact same_c xs ys hx hy hl a b ca cb w la lb
theorem exec_slice {ρ : Operand → Value} {dst : Option Tmp} {ty t : TypeId} {pos : String} {after : Array Edge} {guard : Option (Nat × Bool)} {x : Operand} {lo hi mx : Option Operand} {v : Value} {w : World} (h : (Instr.sliceAt t (ρ x) (lo.map ρ) (hi.map ρ) (mx.map ρ)).run Try.prog w = .ok v w) :
    (execOp ρ { dst, op := .slice t x lo hi mx, type := ty, pos, after, guard }).run Try.prog w = .ok (.value v) w := by
  unfold execOp
  simp only [Sem.run_bind, h, Result.andThen_ok, Sem.run_pure]
theorem below_drewN {B : Nat} {a b : World} (h : Below B a b) (n : Nat) : Below B a (b.drewN n) := ⟨h.os, h.tape, h.output, h.size, h.block⟩
theorem keys_flat (L : Known) : (keys L).flatMap cs = L.flatMap fun p => cs p.1 := by unfold keys; rw [List.flatMap_map]
theorem flat_app (xs : List (List Int)) (x : List Int) : xs.flatMap cs ++ cs x = (xs ++ [x]).flatMap cs := by rw [List.flatMap_append]; simp

set_option maxHeartbeats 16000000 in
theorem verLast_yes (r : Nat) (h1 : 1 ≤ r) (h2 : r ≤ 100) (a : Option Addr) (len cap : Nat) (hlen : len ≤ 300) (w : World) (f : Hashes w a len) :
    Calls Try.prog 8 #[.int .i64 r, .slice a len cap] w fun e w' => e = .returned (.bool true) ∧ Below w.heap.size w w' := by
  have hu := Try.underlying48
  obtain ⟨i0, hi0, hz0, hz1, hz2⟩ := info_parts infoHash
  go_enter Try.func8, Try.ntmps8
  go_wp2_with fail
  refine (vawake_c _).mono ?_
  rintro e W1 ⟨rfl, hb1⟩
  simp only []
  go_wp2_with fail
  refine (new_ok r (by omega) (by omega) W1).mono ?_
  rintro e W2 ⟨rfl, C2, hb2⟩
  have B2 := hb1.trans (hb2.mono hb1.size)
  have s1 := hb1.size
  clear hb1 hb2
  obtain ⟨hp, ehp⟩ : ∃ hp, w.heap.size = hp := ⟨_, rfl⟩
  obtain ⟨p, ep⟩ : ∃ p, W1.heap.size = p := ⟨_, rfl⟩
  rw [ep] at C2 s1 ⊢
  rw [ehp] at B2 s1
  have ehpX : Hid (w.heap.size = hp) := ehp
  clear ep
  clear ehp
  simp only []
  have hl3 : ¬ ((300 : Int) < len) := by omega
  go_wp2_with fail
  go_loopw [7, 8, 33] (fun sc sg i wz => ∃ (k n m q : Nat) (v : Value) (D : DataW Unit) (L : Known) (cm gn : List (List Int)) (ca ga : Option Addr) (cc gc : Nat), k ≤ len ∧ i = .int .i64 k ∧ sc = .slice ca m cc ∧ sg = .slice ga q gc ∧ Hid (cm.length = m) ∧ Hid (gn.length = q) ∧ Last r L cm gn ∧ m ≤ k ∧ q ≤ m ∧ n ≤ k ∧ Holds wz (p + 2) (p + 1) p r v n D L ∧
      wz.ownsRow (p + 2) 48 32 (.slice ca m cc) m (cm.flatMap cs) ∧ wz.ownsRow (p + 2) 48 32 (.slice ga q gc) q (gn.flatMap cs) ∧ Apart (Value.slice ca m cc).ownBlock (Value.slice ga q gc).ownBlock v.ownBlock ∧ Below hp w wz)
    (fun _ _ i _ => len - (intOf i).toNat)
  case atStart => exact ⟨0, 0, 0, 0, _, _, _, [], [], none, none, 0, 0, Nat.zero_le _, rfl, rfl, rfl, rfl, rfl, last_nil r, Nat.le_refl _, Nat.le_refl _, Nat.le_refl _, C2, World.ownsRow_nil _ _ _ _, World.ownsRow_nil _ _ _ _, ⟨(fun k hk => by cases hk), (fun k hk => by cases hk), (fun k hk => by cases hk)⟩, B2⟩
  case round =>
    clear C2 B2
    obtain ⟨k, n, m, q, v, D, L, cm, gn, ca, ga, cc, gc, hk, rfl, rfl, rfl, hm, hq, I, hmk, hqm, hnk, C, ho, hg, hA, hB⟩ := hrel
    have sep := C.base
    by_cases hkl : k < len
    · obtain ⟨b, off, rfl, hb, fx⟩ := f (by omega)
      obtain ⟨x, X, rx⟩ := fx k hkl
      have rx : wr.rangeAt b (off + k * 32) (cs x) := range_below hB rx (by have := ehpX.out; omega)
      obtain ⟨Wx, hsx, qx, Gx, szx⟩ := lay_hash wr X
      clear fx f
      have C1 := C.grow Gx (by simp) (by simp) (by cases v.ownBlock <;> simp)
      have ho1 := ho.kept Gx (by cases (Value.slice ca m cc).ownBlock <;> simp)
      have hg1 := hg.kept Gx (by cases (Value.slice ga q gc).ownBlock <;> simp)
      have BX : Below hp w Wx := hB.trans ((grow_below Gx).mono (by omega))
      have ovX : ∀ k, v.ownBlock = some k → k < wr.heap.size := fun k e => (C.row.lt k e).2
      have ocX := own_range ho
      have ogX := own_range hg
      clear Gx C ho hg
      obtain ⟨xp, exp⟩ : ∃ xp, wr.heap.size = xp := ⟨_, rfl⟩
      rw [exp] at hsx qx szx ovX ocX ogX
      have sep2 : p + 2 ≤ xp := by omega
      have hqx : Hid _ := qx
      have hov : Hid _ := ovX
      have hoc : Hid _ := ocX
      have hog : Hid _ := ogX
      clear qx sep ovX ocX ogX
      have rxx : Wx.rangeAt xp 0 (cs x) := range_of hqx.out
      go_wp2_with (first | (refine wpList_load_mid rfl 48 (.tmp 35) rfl (b) (off + k * 32) rfl (cs x) _ (rx) hu rfl (sizeOfHash X) ?_) | (refine wpList_store_to rfl 48 (.tmp 10) (.tmp 36) rfl xp (by rw [← exp]; rfl) _ rfl hsx ?_))
      clear rx hsx
      obtain ⟨W0, hW0⟩ : ∃ W0, W0 = Wx := ⟨_, rfl⟩
      go_loopw [11, 39] (fun av jv wz => ∃ (j : Nat), j ≤ m ∧ jv = .int .i64 j ∧ av = .bool ((cm.take j).contains x) ∧ Below Wx.heap.size Wx wz) (fun _ jv _ => m - (intOf jv).toNat)
      case atStart => exact ⟨0, Nat.zero_le _, rfl, by simp, Below.refl _ _⟩
      case round =>
        clear hW0
        obtain ⟨j, hj, rfl, rfl, hI⟩ := hrel
        have rxj : wr.rangeAt xp 0 (cs x) := range_below hI rxx (by omega)
        by_cases hjm : j < m
        · obtain ⟨cg, rfl⟩ := row_addr ho1 (by omega)
          have hjl : j < cm.length := by rw [hm.out]; exact hjm
          have Y := I.hs _ (List.getElem_mem hjl)
          have hst : Hid ((cm.take (j + 1)).contains x = ((cm.take j).contains x || (cm[j] == x))) := by
            show (cm.take (j + 1)).contains x = _
            have e1 : [cm[j]].contains x = (cm[j] == x) := by rw [Bool.eq_iff_iff]; simp; exact eq_comm
            rw [← List.take_append_getElem hjl, List.contains_append, e1]
          have ry : wr.rangeAt cg (j * 32) (cs cm[j]) := range_below hI (row_at I.hs ho1 (List.getElem?_eq_getElem hjl)) (by have := (hoc.out cg rfl).2; omega)
          obtain ⟨y, ey⟩ : ∃ y, cm[j] = y := ⟨_, rfl⟩
          rw [ey] at Y hst ry
          clear ey
          obtain ⟨Wy, hsy, qy, Gy, szy⟩ := lay_hash wr Y
          have BY := hI.trans ((grow_below Gy).mono hI.size)
          have rxy : Wy.rangeAt xp 0 (cs x) := range_below (grow_below Gy) rxj (by have := hI.size; omega)
          have ryy := range_of qy
          clear Gy qy
          obtain ⟨yp, eyp⟩ : ∃ yp, wr.heap.size = yp := ⟨_, rfl⟩
          rw [eyp] at hsy szy ryy
          have hqe := eql_hash Y X
          obtain ⟨av, eav⟩ : ∃ av, (cm.take j).contains x = av := ⟨_, rfl⟩
          rw [eav] at hst ⊢
          clear eav
          cases av
          · go_wp2_with (first | (refine wpList_load_mid rfl 48 (.tmp 41) rfl (cg) (j * 32) rfl (cs y) _ (ry) hu rfl (sizeOfHash Y) ?_) | (refine wpList_store_to rfl 48 (.tmp 13) (.tmp 42) rfl yp (by rw [← eyp]; rfl) _ rfl hsy ?_) | (refine wpList_load_want (by rfl) 48 (.tmp 13) rfl (yp) 0 rfl (cs y) _ (ryy) hu rfl (sizeOfHash Y) ?_) | (refine wpList_load_want (by rfl) 48 (.tmp 10) rfl (xp) 0 rfl (cs x) _ (rxy) hu rfl (sizeOfHash X) ?_) | fail)
            go_roundw
            case rel => exact ⟨j + 1, by omega, by go_num, by rw [hst.out]; first | rfl | simp, BY⟩
            case measure => simp [intOf]; omega
          · go_wp2_with (first | (refine wpList_load_mid rfl 48 (.tmp 41) rfl (cg) (j * 32) rfl (cs y) _ (ry) hu rfl (sizeOfHash Y) ?_) | (refine wpList_store_to rfl 48 (.tmp 13) (.tmp 42) rfl yp (by rw [← eyp]; rfl) _ rfl hsy ?_) | (refine wpList_load_want (by rfl) 48 (.tmp 13) rfl (yp) 0 rfl (cs y) _ (ryy) hu rfl (sizeOfHash Y) ?_) | (refine wpList_load_want (by rfl) 48 (.tmp 10) rfl (xp) 0 rfl (cs x) _ (rxy) hu rfl (sizeOfHash X) ?_) | fail)
            go_roundw
            case rel => exact ⟨j + 1, by omega, by go_num, by rw [hst.out]; first | rfl | simp, BY⟩
            case measure => simp [intOf]; omega
        · obtain rfl : m = j := by omega
          have CI := C1.below (hI.mono (Nat.le_refl _))
          have oI := own_below ho1 hI
          have gI := own_below hg1 hI
          have qI := (hI.block xp (by omega)).trans hqx.out
          have BI := BX.trans (hI.mono (by omega))
          have szI := hI.size
          have htk : (cm.take m).contains x = cm.contains x := by rw [← hm.out, List.take_length]
          rw [htk]
          clear htk hI C1 ho1 hg1 BX rxx hqx
          by_cases hcx : x ∈ cm
          · have e1 : cm.contains x = true := List.contains_iff_mem.2 hcx
            rw [e1]
            clear e1
            go_wp2_with fail
            go_roundw
            case rel => exact ⟨k + 1, n, m, q, v, D, L, cm, gn, ca, ga, cc, gc, by omega, by go_num, rfl, rfl, hm, hq, I, by omega, hqm, by omega, CI, oI, gI, hA, BI⟩
            case measure => simp [intOf]; omega
          · have e1 : cm.contains x = false := by cases h : cm.contains x with | false => rfl | true => exact absurd (List.contains_iff_mem.1 h) hcx
            rw [e1]
            clear e1
            have hfold := fold_hash X
            have hcl := cs_len X
            obtain ⟨rr, err⟩ : ∃ rr, wr.heap.size = rr := ⟨_, rfl⟩
            have hxr : xp < rr := by omega
            have GA := World.grownBy_alloc wr (.cells (cs x).toArray 48) none
            have oA := oI.alloc (.cells (cs x).toArray 48)
            have gA := gI.alloc (.cells (cs x).toArray 48)
            have CA := CI.grow GA (by simp) (by simp) (by cases v.ownBlock <;> simp)
            have qA := still GA qI (by simp)
            have BA := BI.alloc (by omega) (.cells (cs x).toArray 48)
            have hnews := news_ok wr (cs x) 48
            have hszA : (wr.alloc (.cells (cs x).toArray 48)).heap.size = rr + 1 := by rw [← err]; simp
            have szAX : Hid _ := hszA
            rw [err] at hnews
            have hnewsX : Hid _ := hnews
            clear CI oI gI GA hnews hszA
            have qAX : Hid _ := qA
            clear qA
            go_upto_region 18 with (first | (refine wpList_load_mid rfl 48 (.tmp 10) rfl (xp) 0 rfl (cs x) _ ((range_of qI)) hu rfl (sizeOfHash X) ?_) | (refine wpList_append_lies _ rfl (.tmp 51) (.tmp 53) 60 rfl (p + 2) 48 i0 (.agg zeroH.toArray) 32 32 Try.underlying60 hi0 hz0 hz1 hz2 rfl (by decide) (.slice ca m cc) m (cm.flatMap cs) rfl oA ⟨rr, 0, none⟩ 1 1 (cs x) rfl (cs_len X) hnewsX.out (cs_one x) (by decide) (by unfold maxLen; omega) (by omega) (by have := szAX.out; omega) (rr + 1) szAX.out ?_; intro g2 cap2 w1 hown2 hgrow hat hlt2) | fail)
            clear hfold hcl
            have hM : Hid ((cm ++ [x]).length = m + 1) := by show (cm ++ [x]).length = m + 1; rw [List.length_append, hm.out]; rfl
            have row1 := hown2
            rw [flat_app] at row1
            have C3 := CA.grow hgrow (fun e => by have := hoc.out _ e.symm; omega) (fun e => by have := hoc.out _ e.symm; omega) (apart_ne2 hA.cv)
            have g3 := gA.kept hgrow (apart_ne2 hA.cg)
            have q3 := still hgrow qAX.out (fun e => by have := hoc.out _ e.symm; omega)
            have B3 := BA.grown hgrow (by have := szAX.out; omega) (fun k e => by have := hoc.out _ e; omega)
            have sz3 := hgrow.size
            rw [szAX.out] at sz3
            have hA3 := apart_c hA hat (fun k e => by have := hog.out _ e; omega) (fun k e => by have := hov.out _ e; omega)
            have r3 : w1.rangeAt xp 0 (cs x) := range_of q3
            obtain ⟨x0, hx0⟩ : ∃ x0, (cs x)[0]? = some (.int .u8 x0) := by
              have := X.len
              cases x with
              | nil => cases this
              | cons y ys => exact ⟨y, rfl⟩
            have c0 : w1.cell? ⟨xp, 0, none⟩ = some (.int .u8 x0) := r3 0 _ hx0
            have hg2 : Hid (p + 2 ≤ g2 ∧ g2 < w1.heap.size) := row1.lt g2 rfl
            have hg2o : Hid ((Value.slice ca m cc).ownBlock = some g2 ∨ g2 = rr + 1) := hat
            clear hown2 hgrow oA gA CA BA szAX hnewsX qAX hx0 hat hlt2 hA hm hoc qI err
            go_wp2_with (first | (refine wpList_load_mid rfl 48 (.tmp 10) rfl (xp) 0 rfl (cs x) _ (r3) hu rfl (sizeOfHash X) ?_) | fail)
            have hL100 : (L.length : Int) ≤ r := by have := I.len; omega
            refine (put_c C3 x X _ (by omega) (by omega) hL100 (by omega)).mono ?_
            rintro e Wp ⟨v3, D3, rfl, C4, T3, o3⟩
            have hG := gone_hash C3.says r x
            have row4 := own_same row1 (fun k e => T3.far k (by have := own_some (g := g2) e; have := hg2.out; omega) (by have := own_some (g := g2) e; have := hg2.out; omega) (by have := own_some (g := g2) e; have := hg2.out; omega) (fun e2 => hA3.cv k e e2.symm))
            have g4 := own_same g3 (fun k e => T3.far k (by have := hog.out _ e; omega) (by have := hog.out _ e; omega) (by have := hog.out _ e; omega) (fun e2 => hA3.gv k e e2.symm))
            have B4 := below_turned B3 T3 (by omega) (by omega) (fun k e => by have := C3.row.lt k e; omega) (by omega)
            have sz4 := T3.size
            have hA4 := apart_v hA3 o3 (fun k e => by have := own_some (g := g2) e; have := hg2.out; omega) (fun k e => by have := hog.out _ e; omega)
            clear C3 T3 o3 row1 g3 B3 hA3 c0 r3 q3
            have hfl := I.full hcx h1
            rw [hfl]
            clear hfl
            by_cases hf : r ≤ cm.length
            · have I2 := I.yes X hcx (decide (3 < x0)) hf h1
              rw [decide_eq_true hf]
              obtain ⟨g, eg⟩ : ∃ g, goneL L r x = g := ⟨_, rfl⟩
              rw [eg] at I2 hG ⊢
              clear eg
              obtain ⟨Wq, hsq, qq, Gq, szq⟩ := lay_hash Wp hG
              have C5 := C4.grow Gq (by simp) (by simp) (by cases v3.ownBlock <;> simp)
              have row5 := row4.kept Gq (.inr (fun e => by cases e))
              have g5 := g4.kept Gq (by cases (Value.slice ga q gc).ownBlock <;> simp)
              have B5 := B4.trans ((grow_below Gq).mono (by omega))
              have ov5 : Hid (∀ k, v3.ownBlock = some k → k < Wp.heap.size) := fun k e => (C4.row.lt k e).2
              clear C4 row4 g4 B4 Gq
              obtain ⟨gp, egp⟩ : ∃ gp, Wp.heap.size = gp := ⟨_, rfl⟩
              rw [egp] at hsq qq szq sz4 ov5
              simp only []
              have rg5 : Wq.rangeAt gp 0 (cs g) := range_of qq
              clear qq
              have hfold := fold_hash hG
              have hcl := cs_len hG
              obtain ⟨rz, erz⟩ : ∃ rz, Wq.heap.size = rz := ⟨_, rfl⟩
              have GA := World.grownBy_alloc Wq (.cells (cs g).toArray 48) none
              have oA := row5.alloc (.cells (cs g).toArray 48)
              have gA := g5.alloc (.cells (cs g).toArray 48)
              have CA := C5.grow GA (by simp) (by simp) (by cases v3.ownBlock <;> simp)
              have BA := B5.alloc (by omega) (.cells (cs g).toArray 48)
              have hnews := news_ok Wq (cs g) 48
              have hszA : (Wq.alloc (.cells (cs g).toArray 48)).heap.size = rz + 1 := by rw [← erz]; simp
              have szAX : Hid _ := hszA
              rw [erz] at hnews
              have hnewsX : Hid _ := hnews
              clear C5 row5 g5 B5 GA hnews hszA
              go_wp2_with (first | (refine wpList_store_to rfl 48 (.tmp 14) (.tmp 62) rfl gp (by rw [← egp]; rfl) _ rfl hsq ?_) | (refine wpList_load_mid rfl 48 (.tmp 14) rfl (gp) 0 rfl (cs g) _ (rg5) hu rfl (sizeOfHash hG) ?_) | (refine wpList_append_lies _ rfl (.tmp 65) (.tmp 67) 60 rfl (p + 2) 48 i0 (.agg zeroH.toArray) 32 32 Try.underlying60 hi0 hz0 hz1 hz2 rfl (by decide) (.slice ga q gc) q (gn.flatMap cs) rfl gA ⟨rz, 0, none⟩ 1 1 (cs g) rfl (cs_len hG) hnewsX.out (cs_one g) (by decide) (by unfold maxLen; omega) (by omega) (by have := szAX.out; omega) (rz + 1) szAX.out ?_; intro g6 cap6 w1 hown2 hgrow hat hlt2) | fail)
              have row6 := hown2
              rw [flat_app] at row6
              have C6 := CA.grow hgrow (fun e => by have := hog.out _ e.symm; omega) (fun e => by have := hog.out _ e.symm; omega) (apart_ne2 hA4.gv)
              have o6 := oA.kept hgrow (.inr (fun e => hA4.cg g2 rfl e.symm))
              have B6 := BA.grown hgrow (by have := szAX.out; omega) (fun k e => by have := hog.out _ e; omega)
              have hA6 := apart_g hA4 hat (fun k e => by have := own_some (g := g2) e; have := hg2.out; omega) (fun k e => by have := ov5.out _ e; omega)
              have hQ : Hid ((gn ++ [g]).length = q + 1) := by show (gn ++ [g]).length = q + 1; rw [List.length_append, hq.out]; rfl
              clear hfold hcl hown2 hgrow hnewsX szAX hat hlt2 CA oA gA BA rg5 hA4
              go_roundw
              case rel => exact ⟨k + 1, n + 1, m + 1, q + 1, v3, D3, _, cm ++ [x], gn ++ [g], some ⟨g2, 0, none⟩, some ⟨g6, 0, none⟩, cap2, cap6, by omega, by go_num, rfl, rfl, hM, hQ, I2, by omega, by omega, by omega, C6, o6, row6, hA6, B6⟩
              case measure => simp [intOf]; omega
            · have I2 := I.no X hcx (decide (3 < x0)) (by omega)
              rw [decide_eq_false hf]
              obtain ⟨Wq, hsq, qq, Gq, szq⟩ := lay_hash Wp hG
              have C5 := C4.grow Gq (by simp) (by simp) (by cases v3.ownBlock <;> simp)
              have row5 := row4.kept Gq (.inr (fun e => by cases e))
              have g5 := g4.kept Gq (by cases (Value.slice ga q gc).ownBlock <;> simp)
              have B5 := B4.trans ((grow_below Gq).mono (by omega))
              have ov5 : Hid (∀ k, v3.ownBlock = some k → k < Wp.heap.size) := fun k e => (C4.row.lt k e).2
              clear C4 row4 g4 B4 Gq
              obtain ⟨gp, egp⟩ : ∃ gp, Wp.heap.size = gp := ⟨_, rfl⟩
              rw [egp] at hsq qq szq sz4 ov5
              simp only []
              obtain ⟨g, eg⟩ : ∃ g, goneL L r x = g := ⟨_, rfl⟩
              rw [eg] at hsq ⊢
              clear qq
              go_wp2_with (first | (refine wpList_store_to rfl 48 (.tmp 14) (.tmp 62) rfl gp (by rw [← egp]; rfl) _ rfl hsq ?_) | fail)
              go_roundw
              case rel => exact ⟨k + 1, n + 1, m + 1, q, v3, D3, _, cm ++ [x], gn, some ⟨g2, 0, none⟩, ga, cap2, gc, by omega, by go_num, rfl, rfl, hM, hq, I2, by omega, by omega, by omega, C5, row5, g5, hA4, B5⟩
              case measure => simp [intOf]; omega
    · obtain rfl : len = k := by omega
      clear f
      have hcm := hm.out
      have hgn : q = m - r := by rw [← hq.out, I.gd, List.length_take, hcm]; omega
      have hL : L.length = m - (m - r) := by rw [I.len, hcm]
      obtain ⟨z, hz⟩ : ∃ z, m - r = z := ⟨_, rfl⟩
      rw [hz] at hgn hL
      obtain rfl : z = q := hgn.symm
      obtain ⟨ch, ct, hs1, hs2, hli⟩ := came_cut (z := z) I.hs ho hcm (by omega)
      have hgh : ∀ x ∈ gn, IsHash x := by rw [I.gd]; exact fun x hx => I.hs x (List.mem_of_mem_take hx)
      have htk : ∀ x ∈ cm.take z, IsHash x := fun x hx => I.hs x (List.mem_of_mem_take hx)
      have hdr : ∀ x ∈ cm.drop z, IsHash x := fun x hx => I.hs x (List.mem_of_mem_drop hx)
      have hkh : ∀ x ∈ keys L, IsHash x := by rw [I.kd]; exact fun x hx => I.hs x (List.mem_of_mem_drop hx)
      have htl : (cm.take z).length = z := by rw [List.length_take, hcm]; omega
      have hdl : (cm.drop z).length = m - z := by rw [List.length_drop, hcm]
      have hs : (gn == cm.take z) = true := by rw [I.gd, hcm, hz]; simp
      have hs2k : (keys L == cm.drop z) = true := by rw [I.kd, hcm, hz]; simp
      have hxc := I.hs
      have ho0 := ho
      clear I
      have hs1X : Hid _ := hs1
      clear hs1
      have hs2X : Hid _ := hs2
      clear hs2
      have hliX : Hid _ := hli
      clear hli
      have hghX : Hid _ := hgh
      clear hgh
      have htkX : Hid _ := htk
      clear htk
      have hdrX : Hid _ := hdr
      clear hdr
      have hkhX : Hid _ := hkh
      clear hkh
      have htlX : Hid _ := htl
      clear htl
      have hdlX : Hid _ := hdl
      clear hdl
      have hsX : Hid _ := hs
      clear hs
      have hs2kX : Hid _ := hs2k
      clear hs2k
      have hcmX : Hid _ := hcm
      clear hcm
      have hLX : Hid _ := hL
      clear hL
      by_cases hmr : r ≤ m
      · have e1 : IntKind.i64.wrap ((m : Int) - r) = z := by rw [IntWalk.i64_in _ (by omega)]; omega
        have hla : Lies wr.drew ga gn := lies_row hghX.out (own_below hg (grow_below (grow_drew wr)))
        have hlb : Lies wr.drew ch (cm.take z) := (hliX.out _ (grow_below (grow_drew wr))).1
        go_upto_region 23 with fail
        clear e1
        refine wp_region_noPanic ?_
        refine wp_region_held_drew (S := fun _ => True) (by kernel_rfl) trivial (fun hHeld => ?_)
        refine wpAnyH_take (i := 0) (v := ?_) rfl (by kernel_rfl) (by kernel_rfl) (by kernel_rfl) (fun _ _ _ h => h) (Or.inl ⟨by kernel_rfl, ?_⟩) hHeld ?_
        rotate_left
        · intro w hSw; go_simp; first | done | with_reducible rfl
        try simp only [List.getElem_toArray, List.getElem_cons_zero, List.getElem_cons_succ, Act.put, List.setIfInBounds_toArray, List.set_cons_zero, List.set_cons_succ]
        refine wpAnyH_take (i := 1) (v := ?_) rfl (by kernel_rfl) (by kernel_rfl) (by kernel_rfl) (fun _ _ _ h => h) (Or.inl ⟨by kernel_rfl, ?_⟩) hHeld ?_
        rotate_left
        · intro w hSw; go_simp; first | done | with_reducible rfl
        try simp only [List.getElem_toArray, List.getElem_cons_zero, List.getElem_cons_succ, Act.put, List.setIfInBounds_toArray, List.set_cons_zero, List.set_cons_succ]
        refine wpAnyH_take (i := 2) (v := ?_) rfl (by kernel_rfl) (by kernel_rfl) (by kernel_rfl) (fun _ _ _ h => h) (Or.inl ⟨by kernel_rfl, ?_⟩) hHeld ?_
        rotate_left
        · intro w hSw; go_simp; first | done | with_reducible rfl
        try simp only [List.getElem_toArray, List.getElem_cons_zero, List.getElem_cons_succ, Act.put, List.setIfInBounds_toArray, List.set_cons_zero, List.set_cons_succ]
        refine wpAnyH_take (i := 3) (v := ?_) rfl (by kernel_rfl) (by kernel_rfl) (by kernel_rfl) (fun _ _ _ h => h) (Or.inl ⟨by kernel_rfl, ?_⟩) hHeld ?_
        rotate_left
        · intro w hSw; refine exec_slice (v := .slice ch z cc) ?_; have hr := hs1X.out w; go_simp
        try simp only [List.getElem_toArray, List.getElem_cons_zero, List.getElem_cons_succ, Act.put, List.setIfInBounds_toArray, List.set_cons_zero, List.set_cons_succ]
        refine wpAnyH_ready (rs := [4]) (by kernel_rfl) (by simp) ?_
        refine AllReadyH.cons rfl (fun K hK => ?_) AllReadyH.nil
        go_simp
        go_at_call 35
        refine (same_is gn (cm.take z) hghX.out htkX.out hq.out htlX.out (by omega) ga ch gc cc _ hla hlb hsX.out).mono ?_
        rintro e Wd ⟨rfl, k1, hWd⟩
        have hBd : Below wr.heap.size wr Wd := by rw [hWd]; exact grow_below (grow_trans (grow_drew wr) (grow_drewN _ k1))
        clear hWd
        simp only []
        refine hK.out _ _ trivial (fun hHeld1 => ?_)
        clear hK K
        try simp only [List.getElem_toArray, List.getElem_cons_zero, List.getElem_cons_succ, Act.put, List.setIfInBounds_toArray, List.set_cons_zero, List.set_cons_succ]
        refine wpAnyH_take (i := 5) (v := ?_) rfl (by kernel_rfl) (by kernel_rfl) (by kernel_rfl) (fun _ _ _ h => h) (Or.inl ⟨by kernel_rfl, ?_⟩) hHeld1 ?_
        rotate_left
        · intro w hSw; go_simp; first | done | with_reducible rfl
        try simp only [List.getElem_toArray, List.getElem_cons_zero, List.getElem_cons_succ, Act.put, List.setIfInBounds_toArray, List.set_cons_zero, List.set_cons_succ]
        refine wpAnyH_take (i := 6) (v := ?_) rfl (by kernel_rfl) (by kernel_rfl) (by kernel_rfl) (fun _ _ _ h => h) (Or.inl ⟨by kernel_rfl, ?_⟩) hHeld1 ?_
        rotate_left
        · intro w hSw; go_simp; first | done | with_reducible rfl
        try simp only [List.getElem_toArray, List.getElem_cons_zero, List.getElem_cons_succ, Act.put, List.setIfInBounds_toArray, List.set_cons_zero, List.set_cons_succ]
        refine wpAnyH_take (i := 8) (v := ?_) rfl (by kernel_rfl) (by kernel_rfl) (by kernel_rfl) (fun _ _ _ h => h) (Or.inl ⟨by kernel_rfl, ?_⟩) hHeld1 ?_
        rotate_left
        · intro w hSw; go_simp; first | done | with_reducible rfl
        try simp only [List.getElem_toArray, List.getElem_cons_zero, List.getElem_cons_succ, Act.put, List.setIfInBounds_toArray, List.set_cons_zero, List.set_cons_succ]
        refine wpAnyH_take (i := 9) (v := ?_) rfl (by kernel_rfl) (by kernel_rfl) (by kernel_rfl) (fun _ _ _ h => h) (Or.inl ⟨by kernel_rfl, ?_⟩) hHeld1 ?_
        rotate_left
        · intro w hSw; go_simp; first | done | with_reducible rfl
        try simp only [List.getElem_toArray, List.getElem_cons_zero, List.getElem_cons_succ, Act.put, List.setIfInBounds_toArray, List.set_cons_zero, List.set_cons_succ]
        refine wpAnyH_take (i := 10) (v := ?_) rfl (by kernel_rfl) (by kernel_rfl) (by kernel_rfl) (fun _ _ _ h => h) (Or.inl ⟨by kernel_rfl, ?_⟩) hHeld1 ?_
        rotate_left
        · intro w hSw; refine exec_slice (v := .slice ct (m - z) (cc - z)) ?_; have hr := hs2X.out w; go_simp
        try simp only [List.getElem_toArray, List.getElem_cons_zero, List.getElem_cons_succ, Act.put, List.setIfInBounds_toArray, List.set_cons_zero, List.set_cons_succ]
        refine wpAnyH_ready (rs := [7]) (by kernel_rfl) (by simp) ?_
        refine AllReadyH.cons rfl (fun K hK => ?_) AllReadyH.nil
        go_simp
        go_at_call 36
        refine (known_is (C.below hBd) hLX.out (by omega)).mono ?_
        rintro e Wk ⟨ak, capk, rfl, hown, hbk⟩
        have hB2 := hBd.trans (hbk.mono hBd.size)
        simp only []
        refine hK.out _ _ trivial (fun hHeld2 => ?_)
        clear hK K
        try simp only [List.getElem_toArray, List.getElem_cons_zero, List.getElem_cons_succ, Act.put, List.setIfInBounds_toArray, List.set_cons_zero, List.set_cons_succ]
        refine wpAnyH_ready (rs := [11]) (by kernel_rfl) (by simp) ?_
        refine AllReadyH.cons rfl (fun K hK => ?_) AllReadyH.nil
        go_simp
        go_at_call 35
        refine (same_is (keys L) (cm.drop z) hkhX.out hdrX.out (by rw [keys_len, hLX.out]) hdlX.out (by omega) ak ct capk (cc - z) _ (lies_row hkhX.out (by rw [keys_flat]; exact hown)) (hliX.out _ hB2).2 hs2kX.out).mono ?_
        rintro e We ⟨rfl, k2, rfl⟩
        simp only []
        refine hK.out _ _ trivial (fun hHeld3 => ?_)
        clear hK K
        try simp only [List.getElem_toArray, List.getElem_cons_zero, List.getElem_cons_succ, Act.put, List.setIfInBounds_toArray, List.set_cons_zero, List.set_cons_succ]
        refine wpAnyH_take (i := 12) (v := ?_) rfl (by kernel_rfl) (by kernel_rfl) (by kernel_rfl) (fun _ _ _ h => h) (Or.inl ⟨by kernel_rfl, ?_⟩) hHeld3 ?_
        rotate_left
        · intro w hSw; go_simp; first | done | with_reducible rfl
        try simp only [List.getElem_toArray, List.getElem_cons_zero, List.getElem_cons_succ, Act.put, List.setIfInBounds_toArray, List.set_cons_zero, List.set_cons_succ]
        refine wpAnyH_take (i := 13) (v := ?_) rfl (by kernel_rfl) (by kernel_rfl) (by kernel_rfl) (fun _ _ _ h => h) (Or.inl ⟨by kernel_rfl, ?_⟩) hHeld3 ?_
        rotate_left
        · intro w hSw; go_simp; first | done | with_reducible rfl
        try simp only [List.getElem_toArray, List.getElem_cons_zero, List.getElem_cons_succ, Act.put, List.setIfInBounds_toArray, List.set_cons_zero, List.set_cons_succ]
        refine wpAnyH_done (by kernel_rfl) ?_ _
        refine NoPanic.normal ?_
        try simp only [List.getElem_toArray, List.getElem_cons_zero, List.getElem_cons_succ, Act.put, List.setIfInBounds_toArray, List.set_cons_zero, List.set_cons_succ]
        go_wp2_with fail
        go_returns
        exact ⟨by first | rfl | simp, below_drewN (by rw [ehpX.out]; exact hB.trans (hB2.mono (by omega))) _⟩
      · obtain rfl : z = 0 := by omega
        have hli0 : ∀ W, Below wr.heap.size wr W → Lies W ca (cm.take 0) ∧ Lies W ca cm := fun W hW => ⟨fun h => by simp at h, lies_row hxc (own_below ho0 hW)⟩
        have hli0X : Hid _ := hli0
        have hs2k0 : (keys L == cm) = true := by simpa using hs2kX.out
        have hs2k0X : Hid _ := hs2k0
        clear hli0 hs2k0
        have hL0X : Hid (L.length = m) := by have := hLX.out; show L.length = m; omega
        have hla : Lies wr.drew ga gn := lies_row hghX.out (own_below hg (grow_below (grow_drew wr)))
        have hlb : Lies wr.drew ca (cm.take 0) := (hli0X.out _ (grow_below (grow_drew wr))).1
        go_upto_region 23 with fail
        refine wp_region_noPanic ?_
        refine wp_region_held_drew (S := fun _ => True) (by kernel_rfl) trivial (fun hHeld => ?_)
        refine wpAnyH_take (i := 0) (v := ?_) rfl (by kernel_rfl) (by kernel_rfl) (by kernel_rfl) (fun _ _ _ h => h) (Or.inl ⟨by kernel_rfl, ?_⟩) hHeld ?_
        rotate_left
        · intro w hSw; go_simp; first | done | with_reducible rfl
        try simp only [List.getElem_toArray, List.getElem_cons_zero, List.getElem_cons_succ, Act.put, List.setIfInBounds_toArray, List.set_cons_zero, List.set_cons_succ]
        refine wpAnyH_take (i := 1) (v := ?_) rfl (by kernel_rfl) (by kernel_rfl) (by kernel_rfl) (fun _ _ _ h => h) (Or.inl ⟨by kernel_rfl, ?_⟩) hHeld ?_
        rotate_left
        · intro w hSw; go_simp; first | done | with_reducible rfl
        try simp only [List.getElem_toArray, List.getElem_cons_zero, List.getElem_cons_succ, Act.put, List.setIfInBounds_toArray, List.set_cons_zero, List.set_cons_succ]
        refine wpAnyH_take (i := 2) (v := ?_) rfl (by kernel_rfl) (by kernel_rfl) (by kernel_rfl) (fun _ _ _ h => h) (Or.inl ⟨by kernel_rfl, ?_⟩) hHeld ?_
        rotate_left
        · intro w hSw; go_simp; first | done | with_reducible rfl
        try simp only [List.getElem_toArray, List.getElem_cons_zero, List.getElem_cons_succ, Act.put, List.setIfInBounds_toArray, List.set_cons_zero, List.set_cons_succ]
        refine wpAnyH_take (i := 3) (v := ?_) rfl (by kernel_rfl) (by kernel_rfl) (by kernel_rfl) (fun _ _ _ h => h) (Or.inl ⟨by kernel_rfl, ?_⟩) hHeld ?_
        rotate_left
        · intro w hSw; go_simp; first | done | with_reducible rfl
        try simp only [List.getElem_toArray, List.getElem_cons_zero, List.getElem_cons_succ, Act.put, List.setIfInBounds_toArray, List.set_cons_zero, List.set_cons_succ]
        refine wpAnyH_ready (rs := [4]) (by kernel_rfl) (by simp) ?_
        refine AllReadyH.cons rfl (fun K hK => ?_) AllReadyH.nil
        go_simp
        go_at_call 35
        refine (same_is gn (cm.take 0) hghX.out htkX.out hq.out htlX.out (by omega) ga ca gc cc _ hla hlb hsX.out).mono ?_
        rintro e Wd ⟨rfl, k1, hWd⟩
        have hBd : Below wr.heap.size wr Wd := by rw [hWd]; exact grow_below (grow_trans (grow_drew wr) (grow_drewN _ k1))
        clear hWd
        simp only []
        refine hK.out _ _ trivial (fun hHeld1 => ?_)
        clear hK K
        try simp only [List.getElem_toArray, List.getElem_cons_zero, List.getElem_cons_succ, Act.put, List.setIfInBounds_toArray, List.set_cons_zero, List.set_cons_succ]
        refine wpAnyH_take (i := 5) (v := ?_) rfl (by kernel_rfl) (by kernel_rfl) (by kernel_rfl) (fun _ _ _ h => h) (Or.inl ⟨by kernel_rfl, ?_⟩) hHeld1 ?_
        rotate_left
        · intro w hSw; go_simp; first | done | with_reducible rfl
        try simp only [List.getElem_toArray, List.getElem_cons_zero, List.getElem_cons_succ, Act.put, List.setIfInBounds_toArray, List.set_cons_zero, List.set_cons_succ]
        refine wpAnyH_take (i := 6) (v := ?_) rfl (by kernel_rfl) (by kernel_rfl) (by kernel_rfl) (fun _ _ _ h => h) (Or.inl ⟨by kernel_rfl, ?_⟩) hHeld1 ?_
        rotate_left
        · intro w hSw; go_simp; first | done | with_reducible rfl
        try simp only [List.getElem_toArray, List.getElem_cons_zero, List.getElem_cons_succ, Act.put, List.setIfInBounds_toArray, List.set_cons_zero, List.set_cons_succ]
        refine wpAnyH_take (i := 8) (v := ?_) rfl (by kernel_rfl) (by kernel_rfl) (by kernel_rfl) (fun _ _ _ h => h) (Or.inl ⟨by kernel_rfl, ?_⟩) hHeld1 ?_
        rotate_left
        · intro w hSw; go_simp; first | done | with_reducible rfl
        try simp only [List.getElem_toArray, List.getElem_cons_zero, List.getElem_cons_succ, Act.put, List.setIfInBounds_toArray, List.set_cons_zero, List.set_cons_succ]
        refine wpAnyH_take (i := 9) (v := ?_) rfl (by kernel_rfl) (by kernel_rfl) (by kernel_rfl) (fun _ _ _ h => h) (Or.inl ⟨by kernel_rfl, ?_⟩) hHeld1 ?_
        rotate_left
        · intro w hSw; go_simp; first | done | with_reducible rfl
        try simp only [List.getElem_toArray, List.getElem_cons_zero, List.getElem_cons_succ, Act.put, List.setIfInBounds_toArray, List.set_cons_zero, List.set_cons_succ]
        refine wpAnyH_take (i := 10) (v := ?_) rfl (by kernel_rfl) (by kernel_rfl) (by kernel_rfl) (fun _ _ _ h => h) (Or.inl ⟨by kernel_rfl, ?_⟩) hHeld1 ?_
        rotate_left
        · intro w hSw; go_simp; first | done | with_reducible rfl
        try simp only [List.getElem_toArray, List.getElem_cons_zero, List.getElem_cons_succ, Act.put, List.setIfInBounds_toArray, List.set_cons_zero, List.set_cons_succ]
        refine wpAnyH_ready (rs := [7]) (by kernel_rfl) (by simp) ?_
        refine AllReadyH.cons rfl (fun K hK => ?_) AllReadyH.nil
        go_simp
        go_at_call 36
        refine (known_is (C.below hBd) hL0X.out (by omega)).mono ?_
        rintro e Wk ⟨ak, capk, rfl, hown, hbk⟩
        have hB2 := hBd.trans (hbk.mono hBd.size)
        simp only []
        refine hK.out _ _ trivial (fun hHeld2 => ?_)
        clear hK K
        try simp only [List.getElem_toArray, List.getElem_cons_zero, List.getElem_cons_succ, Act.put, List.setIfInBounds_toArray, List.set_cons_zero, List.set_cons_succ]
        refine wpAnyH_ready (rs := [11]) (by kernel_rfl) (by simp) ?_
        refine AllReadyH.cons rfl (fun K hK => ?_) AllReadyH.nil
        go_simp
        go_at_call 35
        refine (same_is (keys L) cm hkhX.out hxc (by rw [keys_len, hL0X.out]) hcmX.out (by omega) ak ca capk cc _ (lies_row hkhX.out (by rw [keys_flat]; exact hown)) (hli0X.out _ hB2).2 hs2k0X.out).mono ?_
        rintro e We ⟨rfl, k2, rfl⟩
        simp only []
        refine hK.out _ _ trivial (fun hHeld3 => ?_)
        clear hK K
        try simp only [List.getElem_toArray, List.getElem_cons_zero, List.getElem_cons_succ, Act.put, List.setIfInBounds_toArray, List.set_cons_zero, List.set_cons_succ]
        refine wpAnyH_take (i := 12) (v := ?_) rfl (by kernel_rfl) (by kernel_rfl) (by kernel_rfl) (fun _ _ _ h => h) (Or.inl ⟨by kernel_rfl, ?_⟩) hHeld3 ?_
        rotate_left
        · intro w hSw; go_simp; first | done | with_reducible rfl
        try simp only [List.getElem_toArray, List.getElem_cons_zero, List.getElem_cons_succ, Act.put, List.setIfInBounds_toArray, List.set_cons_zero, List.set_cons_succ]
        refine wpAnyH_take (i := 13) (v := ?_) rfl (by kernel_rfl) (by kernel_rfl) (by kernel_rfl) (fun _ _ _ h => h) (Or.inl ⟨by kernel_rfl, ?_⟩) hHeld3 ?_
        rotate_left
        · intro w hSw; go_simp; first | done | with_reducible rfl
        try simp only [List.getElem_toArray, List.getElem_cons_zero, List.getElem_cons_succ, Act.put, List.setIfInBounds_toArray, List.set_cons_zero, List.set_cons_succ]
        refine wpAnyH_done (by kernel_rfl) ?_ _
        refine NoPanic.normal ?_
        try simp only [List.getElem_toArray, List.getElem_cons_zero, List.getElem_cons_succ, Act.put, List.setIfInBounds_toArray, List.set_cons_zero, List.set_cons_succ]
        go_wp2_with fail
        go_returns
        exact ⟨by first | rfl | simp, below_drewN (by rw [ehpX.out]; exact hB.trans (hB2.mono (by omega))) _⟩
end Go.Proofs.Ytecmhkkjobflcaa.Ver
