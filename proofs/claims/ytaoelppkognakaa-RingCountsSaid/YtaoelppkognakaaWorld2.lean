/- Worlds whose own blocks stay written out behind calls, further steps: five and six own blocks, and a new block behind them. Plain: no program. -/
import Derived.Test.YtaoelppkognakaaWorld
namespace Go.Proofs.Ytaoelppkognakaa.Wd
open Go.RowKit
set_option linter.unusedVariables false
set_option linter.unusedSimpArgs false
set_option maxHeartbeats 1000000
theorem puts5 {W w' : World} (hb : Below W.heap.size W w') {a : Nat} {AA : Array Value} {ta : TypeId} {b : Nat} {BB : Array Value} {tb : TypeId} {c : Nat} {CC : Array Value} {tc : TypeId} {d : Nat} {DD : Array Value} {td : TypeId} {f : Nat} {FF : Array Value} {tf : TypeId} (qa : W.heap[a]? = some (.cells AA ta)) (qb : W.heap[b]? = some (.cells BB tb)) (qc : W.heap[c]? = some (.cells CC tc)) (qd : W.heap[d]? = some (.cells DD td)) (qf : W.heap[f]? = some (.cells FF tf)) :
    ∃ v, w' = (put (put (put (put (put v a AA ta) b BB tb) c CC tc) d DD td) f FF tf) ∧ v.heap.size = w'.heap.size ∧ Below W.heap.size W v := by
  refine ⟨w', ?_, rfl, hb⟩
  rw [put_self w' a AA ta ((hb.block a (lt_of_block qa)).trans qa), put_self w' b BB tb ((hb.block b (lt_of_block qb)).trans qb), put_self w' c CC tc ((hb.block c (lt_of_block qc)).trans qc), put_self w' d DD td ((hb.block d (lt_of_block qd)).trans qd), put_self w' f FF tf ((hb.block f (lt_of_block qf)).trans qf)]
theorem step5 {w0 v w' : World} {a : Nat} {AA : Array Value} {ta : TypeId} {b : Nat} {BB : Array Value} {tb : TypeId} {c : Nat} {CC : Array Value} {tc : TypeId} {d : Nat} {DD : Array Value} {td : TypeId} {f : Nat} {FF : Array Value} {tf : TypeId} (hb : Below (put (put (put (put (put v a AA ta) b BB tb) c CC tc) d DD td) f FF tf).heap.size (put (put (put (put (put v a AA ta) b BB tb) c CC tc) d DD td) f FF tf) w') (hB : Below w0.heap.size w0 v) (la : w0.heap.size ≤ a) (lb : w0.heap.size ≤ b) (lc : w0.heap.size ≤ c) (ld : w0.heap.size ≤ d) (lf : w0.heap.size ≤ f) (ua : a < v.heap.size) (ub : b < v.heap.size) (uc : c < v.heap.size) (ud : d < v.heap.size) (uf : f < v.heap.size) (nab : a ≠ b) (nac : a ≠ c) (nad : a ≠ d) (naf : a ≠ f) (nbc : b ≠ c) (nbd : b ≠ d) (nbf : b ≠ f) (ncd : c ≠ d) (ncf : c ≠ f) (ndf : d ≠ f) :
    ∃ v', w' = (put (put (put (put (put v' a AA ta) b BB tb) c CC tc) d DD td) f FF tf) ∧ a < v'.heap.size ∧ b < v'.heap.size ∧ c < v'.heap.size ∧ d < v'.heap.size ∧ f < v'.heap.size ∧ Below w0.heap.size w0 v' := by
  have hsz : (put (put (put (put (put v a AA ta) b BB tb) c CC tc) d DD td) f FF tf).heap.size = v.heap.size := by simp only [size_put]
  obtain ⟨v', e, hs, hv⟩ := puts5 (W := (put (put (put (put (put v a AA ta) b BB tb) c CC tc) d DD td) f FF tf)) hb ((heap_put_other _ _ _ _ naf).trans ((heap_put_other _ _ _ _ nad).trans ((heap_put_other _ _ _ _ nac).trans ((heap_put_other _ _ _ _ nab).trans (heap_put_same _ _ _ _ (by first | assumption | (simp only [size_put]; assumption))))))) ((heap_put_other _ _ _ _ nbf).trans ((heap_put_other _ _ _ _ nbd).trans ((heap_put_other _ _ _ _ nbc).trans (heap_put_same _ _ _ _ (by first | assumption | (simp only [size_put]; assumption)))))) ((heap_put_other _ _ _ _ ncf).trans ((heap_put_other _ _ _ _ ncd).trans (heap_put_same _ _ _ _ (by first | assumption | (simp only [size_put]; assumption))))) ((heap_put_other _ _ _ _ ndf).trans (heap_put_same _ _ _ _ (by first | assumption | (simp only [size_put]; assumption)))) (heap_put_same _ _ _ _ (by first | assumption | (simp only [size_put]; assumption)))
  have hle := hb.size
  rw [hsz] at hle
  have hBs := hB.size
  refine ⟨v', e, by omega, by omega, by omega, by omega, by omega, ?_⟩
  have h1 : Below w0.heap.size w0 (put (put (put (put (put v a AA ta) b BB tb) c CC tc) d DD td) f FF tf) := below_put _ _ _ _ (below_put _ _ _ _ (below_put _ _ _ _ (below_put _ _ _ _ (below_put _ _ _ _ (hB) la) lb) lc) ld) lf
  exact h1.trans (hv.mono (by rw [hsz]; exact hBs))
theorem step5d {w0 v w' : World} {n : Nat} {a : Nat} {AA : Array Value} {ta : TypeId} {b : Nat} {BB : Array Value} {tb : TypeId} {c : Nat} {CC : Array Value} {tc : TypeId} {d : Nat} {DD : Array Value} {td : TypeId} {f : Nat} {FF : Array Value} {tf : TypeId} (hb : Below ((put (put (put (put (put v a AA ta) b BB tb) c CC tc) d DD td) f FF tf).drewN n).heap.size ((put (put (put (put (put v a AA ta) b BB tb) c CC tc) d DD td) f FF tf).drewN n) w') (hB : Below w0.heap.size w0 v) (la : w0.heap.size ≤ a) (lb : w0.heap.size ≤ b) (lc : w0.heap.size ≤ c) (ld : w0.heap.size ≤ d) (lf : w0.heap.size ≤ f) (ua : a < v.heap.size) (ub : b < v.heap.size) (uc : c < v.heap.size) (ud : d < v.heap.size) (uf : f < v.heap.size) (nab : a ≠ b) (nac : a ≠ c) (nad : a ≠ d) (naf : a ≠ f) (nbc : b ≠ c) (nbd : b ≠ d) (nbf : b ≠ f) (ncd : c ≠ d) (ncf : c ≠ f) (ndf : d ≠ f) :
    ∃ v', w' = (put (put (put (put (put v' a AA ta) b BB tb) c CC tc) d DD td) f FF tf) ∧ a < v'.heap.size ∧ b < v'.heap.size ∧ c < v'.heap.size ∧ d < v'.heap.size ∧ f < v'.heap.size ∧ Below w0.heap.size w0 v' :=
  step5 (sed (Below.refl _ _) hb) hB la lb lc ld lf ua ub uc ud uf nab nac nad naf nbc nbd nbf ncd ncf ndf
theorem step5r {w0 v w' : World} {a : Nat} {AA : Array Value} {ta : TypeId} {b : Nat} {BB : Array Value} {tb : TypeId} {c : Nat} {CC : Array Value} {tc : TypeId} {d : Nat} {DD : Array Value} {td : TypeId} {f : Nat} {FF : Array Value} {tf : TypeId} (hb : Below ((put (put (put (put (put v a AA ta) b BB tb) c CC tc) d DD td) f FF tf).drew).heap.size ((put (put (put (put (put v a AA ta) b BB tb) c CC tc) d DD td) f FF tf).drew) w') (hB : Below w0.heap.size w0 v) (la : w0.heap.size ≤ a) (lb : w0.heap.size ≤ b) (lc : w0.heap.size ≤ c) (ld : w0.heap.size ≤ d) (lf : w0.heap.size ≤ f) (ua : a < v.heap.size) (ub : b < v.heap.size) (uc : c < v.heap.size) (ud : d < v.heap.size) (uf : f < v.heap.size) (nab : a ≠ b) (nac : a ≠ c) (nad : a ≠ d) (naf : a ≠ f) (nbc : b ≠ c) (nbd : b ≠ d) (nbf : b ≠ f) (ncd : c ≠ d) (ncf : c ≠ f) (ndf : d ≠ f) :
    ∃ v', w' = (put (put (put (put (put v' a AA ta) b BB tb) c CC tc) d DD td) f FF tf) ∧ a < v'.heap.size ∧ b < v'.heap.size ∧ c < v'.heap.size ∧ d < v'.heap.size ∧ f < v'.heap.size ∧ Below w0.heap.size w0 v' :=
  step5 (sed (n := 1) (Below.refl _ _) hb) hB la lb lc ld lf ua ub uc ud uf nab nac nad naf nbc nbd nbf ncd ncf ndf
theorem puts6 {W w' : World} (hb : Below W.heap.size W w') {a : Nat} {AA : Array Value} {ta : TypeId} {b : Nat} {BB : Array Value} {tb : TypeId} {c : Nat} {CC : Array Value} {tc : TypeId} {d : Nat} {DD : Array Value} {td : TypeId} {f : Nat} {FF : Array Value} {tf : TypeId} {g : Nat} {GG : Array Value} {tg : TypeId} (qa : W.heap[a]? = some (.cells AA ta)) (qb : W.heap[b]? = some (.cells BB tb)) (qc : W.heap[c]? = some (.cells CC tc)) (qd : W.heap[d]? = some (.cells DD td)) (qf : W.heap[f]? = some (.cells FF tf)) (qg : W.heap[g]? = some (.cells GG tg)) :
    ∃ v, w' = (put (put (put (put (put (put v a AA ta) b BB tb) c CC tc) d DD td) f FF tf) g GG tg) ∧ v.heap.size = w'.heap.size ∧ Below W.heap.size W v := by
  refine ⟨w', ?_, rfl, hb⟩
  rw [put_self w' a AA ta ((hb.block a (lt_of_block qa)).trans qa), put_self w' b BB tb ((hb.block b (lt_of_block qb)).trans qb), put_self w' c CC tc ((hb.block c (lt_of_block qc)).trans qc), put_self w' d DD td ((hb.block d (lt_of_block qd)).trans qd), put_self w' f FF tf ((hb.block f (lt_of_block qf)).trans qf), put_self w' g GG tg ((hb.block g (lt_of_block qg)).trans qg)]
theorem step6 {w0 v w' : World} {a : Nat} {AA : Array Value} {ta : TypeId} {b : Nat} {BB : Array Value} {tb : TypeId} {c : Nat} {CC : Array Value} {tc : TypeId} {d : Nat} {DD : Array Value} {td : TypeId} {f : Nat} {FF : Array Value} {tf : TypeId} {g : Nat} {GG : Array Value} {tg : TypeId} (hb : Below (put (put (put (put (put (put v a AA ta) b BB tb) c CC tc) d DD td) f FF tf) g GG tg).heap.size (put (put (put (put (put (put v a AA ta) b BB tb) c CC tc) d DD td) f FF tf) g GG tg) w') (hB : Below w0.heap.size w0 v) (la : w0.heap.size ≤ a) (lb : w0.heap.size ≤ b) (lc : w0.heap.size ≤ c) (ld : w0.heap.size ≤ d) (lf : w0.heap.size ≤ f) (lg : w0.heap.size ≤ g) (ua : a < v.heap.size) (ub : b < v.heap.size) (uc : c < v.heap.size) (ud : d < v.heap.size) (uf : f < v.heap.size) (ug : g < v.heap.size) (nab : a ≠ b) (nac : a ≠ c) (nad : a ≠ d) (naf : a ≠ f) (nag : a ≠ g) (nbc : b ≠ c) (nbd : b ≠ d) (nbf : b ≠ f) (nbg : b ≠ g) (ncd : c ≠ d) (ncf : c ≠ f) (ncg : c ≠ g) (ndf : d ≠ f) (ndg : d ≠ g) (nfg : f ≠ g) :
    ∃ v', w' = (put (put (put (put (put (put v' a AA ta) b BB tb) c CC tc) d DD td) f FF tf) g GG tg) ∧ a < v'.heap.size ∧ b < v'.heap.size ∧ c < v'.heap.size ∧ d < v'.heap.size ∧ f < v'.heap.size ∧ g < v'.heap.size ∧ Below w0.heap.size w0 v' := by
  have hsz : (put (put (put (put (put (put v a AA ta) b BB tb) c CC tc) d DD td) f FF tf) g GG tg).heap.size = v.heap.size := by simp only [size_put]
  obtain ⟨v', e, hs, hv⟩ := puts6 (W := (put (put (put (put (put (put v a AA ta) b BB tb) c CC tc) d DD td) f FF tf) g GG tg)) hb ((heap_put_other _ _ _ _ nag).trans ((heap_put_other _ _ _ _ naf).trans ((heap_put_other _ _ _ _ nad).trans ((heap_put_other _ _ _ _ nac).trans ((heap_put_other _ _ _ _ nab).trans (heap_put_same _ _ _ _ (by first | assumption | (simp only [size_put]; assumption)))))))) ((heap_put_other _ _ _ _ nbg).trans ((heap_put_other _ _ _ _ nbf).trans ((heap_put_other _ _ _ _ nbd).trans ((heap_put_other _ _ _ _ nbc).trans (heap_put_same _ _ _ _ (by first | assumption | (simp only [size_put]; assumption))))))) ((heap_put_other _ _ _ _ ncg).trans ((heap_put_other _ _ _ _ ncf).trans ((heap_put_other _ _ _ _ ncd).trans (heap_put_same _ _ _ _ (by first | assumption | (simp only [size_put]; assumption)))))) ((heap_put_other _ _ _ _ ndg).trans ((heap_put_other _ _ _ _ ndf).trans (heap_put_same _ _ _ _ (by first | assumption | (simp only [size_put]; assumption))))) ((heap_put_other _ _ _ _ nfg).trans (heap_put_same _ _ _ _ (by first | assumption | (simp only [size_put]; assumption)))) (heap_put_same _ _ _ _ (by first | assumption | (simp only [size_put]; assumption)))
  have hle := hb.size
  rw [hsz] at hle
  have hBs := hB.size
  refine ⟨v', e, by omega, by omega, by omega, by omega, by omega, by omega, ?_⟩
  have h1 : Below w0.heap.size w0 (put (put (put (put (put (put v a AA ta) b BB tb) c CC tc) d DD td) f FF tf) g GG tg) := below_put _ _ _ _ (below_put _ _ _ _ (below_put _ _ _ _ (below_put _ _ _ _ (below_put _ _ _ _ (below_put _ _ _ _ (hB) la) lb) lc) ld) lf) lg
  exact h1.trans (hv.mono (by rw [hsz]; exact hBs))
theorem step6d {w0 v w' : World} {n : Nat} {a : Nat} {AA : Array Value} {ta : TypeId} {b : Nat} {BB : Array Value} {tb : TypeId} {c : Nat} {CC : Array Value} {tc : TypeId} {d : Nat} {DD : Array Value} {td : TypeId} {f : Nat} {FF : Array Value} {tf : TypeId} {g : Nat} {GG : Array Value} {tg : TypeId} (hb : Below ((put (put (put (put (put (put v a AA ta) b BB tb) c CC tc) d DD td) f FF tf) g GG tg).drewN n).heap.size ((put (put (put (put (put (put v a AA ta) b BB tb) c CC tc) d DD td) f FF tf) g GG tg).drewN n) w') (hB : Below w0.heap.size w0 v) (la : w0.heap.size ≤ a) (lb : w0.heap.size ≤ b) (lc : w0.heap.size ≤ c) (ld : w0.heap.size ≤ d) (lf : w0.heap.size ≤ f) (lg : w0.heap.size ≤ g) (ua : a < v.heap.size) (ub : b < v.heap.size) (uc : c < v.heap.size) (ud : d < v.heap.size) (uf : f < v.heap.size) (ug : g < v.heap.size) (nab : a ≠ b) (nac : a ≠ c) (nad : a ≠ d) (naf : a ≠ f) (nag : a ≠ g) (nbc : b ≠ c) (nbd : b ≠ d) (nbf : b ≠ f) (nbg : b ≠ g) (ncd : c ≠ d) (ncf : c ≠ f) (ncg : c ≠ g) (ndf : d ≠ f) (ndg : d ≠ g) (nfg : f ≠ g) :
    ∃ v', w' = (put (put (put (put (put (put v' a AA ta) b BB tb) c CC tc) d DD td) f FF tf) g GG tg) ∧ a < v'.heap.size ∧ b < v'.heap.size ∧ c < v'.heap.size ∧ d < v'.heap.size ∧ f < v'.heap.size ∧ g < v'.heap.size ∧ Below w0.heap.size w0 v' :=
  step6 (sed (Below.refl _ _) hb) hB la lb lc ld lf lg ua ub uc ud uf ug nab nac nad naf nag nbc nbd nbf nbg ncd ncf ncg ndf ndg nfg
theorem step6r {w0 v w' : World} {a : Nat} {AA : Array Value} {ta : TypeId} {b : Nat} {BB : Array Value} {tb : TypeId} {c : Nat} {CC : Array Value} {tc : TypeId} {d : Nat} {DD : Array Value} {td : TypeId} {f : Nat} {FF : Array Value} {tf : TypeId} {g : Nat} {GG : Array Value} {tg : TypeId} (hb : Below ((put (put (put (put (put (put v a AA ta) b BB tb) c CC tc) d DD td) f FF tf) g GG tg).drew).heap.size ((put (put (put (put (put (put v a AA ta) b BB tb) c CC tc) d DD td) f FF tf) g GG tg).drew) w') (hB : Below w0.heap.size w0 v) (la : w0.heap.size ≤ a) (lb : w0.heap.size ≤ b) (lc : w0.heap.size ≤ c) (ld : w0.heap.size ≤ d) (lf : w0.heap.size ≤ f) (lg : w0.heap.size ≤ g) (ua : a < v.heap.size) (ub : b < v.heap.size) (uc : c < v.heap.size) (ud : d < v.heap.size) (uf : f < v.heap.size) (ug : g < v.heap.size) (nab : a ≠ b) (nac : a ≠ c) (nad : a ≠ d) (naf : a ≠ f) (nag : a ≠ g) (nbc : b ≠ c) (nbd : b ≠ d) (nbf : b ≠ f) (nbg : b ≠ g) (ncd : c ≠ d) (ncf : c ≠ f) (ncg : c ≠ g) (ndf : d ≠ f) (ndg : d ≠ g) (nfg : f ≠ g) :
    ∃ v', w' = (put (put (put (put (put (put v' a AA ta) b BB tb) c CC tc) d DD td) f FF tf) g GG tg) ∧ a < v'.heap.size ∧ b < v'.heap.size ∧ c < v'.heap.size ∧ d < v'.heap.size ∧ f < v'.heap.size ∧ g < v'.heap.size ∧ Below w0.heap.size w0 v' :=
  step6 (sed (n := 1) (Below.refl _ _) hb) hB la lb lc ld lf lg ua ub uc ud uf ug nab nac nad naf nag nbc nbd nbf nbg ncd ncf ncg ndf ndg nfg
theorem new0 {w0 v w' : World} {p : Nat}  {ZZ : Array Value} {tz : TypeId} (hb : Below (v.alloc (.cells ZZ tz)).heap.size (v.alloc (.cells ZZ tz)) w') (hB : Below w0.heap.size w0 v) (hp : v.heap.size = p)    :
    ∃ v', w' = (put v' p ZZ tz) ∧ p < v'.heap.size ∧ Below w0.heap.size w0 v' := by
  subst hp
  have h1 : (v.alloc (.cells ZZ tz)).heap[v.heap.size]? = some (.cells ZZ tz) := by
    exact heap_alloc_new _ _
  have e : (v.alloc (.cells ZZ tz)) = put (v.alloc (.cells ZZ tz)) v.heap.size ZZ tz := by
    rw [put_self (v.alloc (.cells ZZ tz)) v.heap.size ZZ tz h1]
    skip
  rw [e] at hb
  exact step1 hb (hB.alloc hB.size _)  hB.size  (by simp only [World.size_alloc]; omega) 
theorem new0d {w0 v w' : World} {p n : Nat}  {ZZ : Array Value} {tz : TypeId} (hb : Below ((v.alloc (.cells ZZ tz)).drewN n).heap.size ((v.alloc (.cells ZZ tz)).drewN n) w') (hB : Below w0.heap.size w0 v) (hp : v.heap.size = p)    :
    ∃ v', w' = (put v' p ZZ tz) ∧ p < v'.heap.size ∧ Below w0.heap.size w0 v' :=
  new0 (sed (Below.refl _ _) hb) hB hp   
theorem new1 {w0 v w' : World} {p : Nat} {a : Nat} {AA : Array Value} {ta : TypeId} {ZZ : Array Value} {tz : TypeId} (hb : Below ((put v a AA ta).alloc (.cells ZZ tz)).heap.size ((put v a AA ta).alloc (.cells ZZ tz)) w') (hB : Below w0.heap.size w0 v) (hp : v.heap.size = p) (la : w0.heap.size ≤ a) (ua : a < p)  :
    ∃ v', w' = (put (put v' a AA ta) p ZZ tz) ∧ a < v'.heap.size ∧ p < v'.heap.size ∧ Below w0.heap.size w0 v' := by
  subst hp
  have h1 : (put (v.alloc (.cells ZZ tz)) a AA ta).heap[v.heap.size]? = some (.cells ZZ tz) := by
    rw [heap_put_other _ _ _ _ (by omega)]
    exact heap_alloc_new _ _
  have e : ((put v a AA ta).alloc (.cells ZZ tz)) = put (put (v.alloc (.cells ZZ tz)) a AA ta) v.heap.size ZZ tz := by
    rw [put_self (put (v.alloc (.cells ZZ tz)) a AA ta) v.heap.size ZZ tz h1]
    rw [alloc_put v _ a AA ta (by first | assumption | (simp only [size_put]; assumption))]
  rw [e] at hb
  exact step2 hb (hB.alloc hB.size _) la hB.size (by simp only [World.size_alloc]; omega) (by simp only [World.size_alloc]; omega) (by omega)
theorem new1d {w0 v w' : World} {p n : Nat} {a : Nat} {AA : Array Value} {ta : TypeId} {ZZ : Array Value} {tz : TypeId} (hb : Below (((put v a AA ta).alloc (.cells ZZ tz)).drewN n).heap.size (((put v a AA ta).alloc (.cells ZZ tz)).drewN n) w') (hB : Below w0.heap.size w0 v) (hp : v.heap.size = p) (la : w0.heap.size ≤ a) (ua : a < p)  :
    ∃ v', w' = (put (put v' a AA ta) p ZZ tz) ∧ a < v'.heap.size ∧ p < v'.heap.size ∧ Below w0.heap.size w0 v' :=
  new1 (sed (Below.refl _ _) hb) hB hp la ua 
theorem new2 {w0 v w' : World} {p : Nat} {a : Nat} {AA : Array Value} {ta : TypeId} {b : Nat} {BB : Array Value} {tb : TypeId} {ZZ : Array Value} {tz : TypeId} (hb : Below ((put (put v a AA ta) b BB tb).alloc (.cells ZZ tz)).heap.size ((put (put v a AA ta) b BB tb).alloc (.cells ZZ tz)) w') (hB : Below w0.heap.size w0 v) (hp : v.heap.size = p) (la : w0.heap.size ≤ a) (lb : w0.heap.size ≤ b) (ua : a < p) (ub : b < p) (nab : a ≠ b) :
    ∃ v', w' = (put (put (put v' a AA ta) b BB tb) p ZZ tz) ∧ a < v'.heap.size ∧ b < v'.heap.size ∧ p < v'.heap.size ∧ Below w0.heap.size w0 v' := by
  subst hp
  have h1 : (put (put (v.alloc (.cells ZZ tz)) a AA ta) b BB tb).heap[v.heap.size]? = some (.cells ZZ tz) := by
    rw [heap_put_other _ _ _ _ (by omega)]
    rw [heap_put_other _ _ _ _ (by omega)]
    exact heap_alloc_new _ _
  have e : ((put (put v a AA ta) b BB tb).alloc (.cells ZZ tz)) = put (put (put (v.alloc (.cells ZZ tz)) a AA ta) b BB tb) v.heap.size ZZ tz := by
    rw [put_self (put (put (v.alloc (.cells ZZ tz)) a AA ta) b BB tb) v.heap.size ZZ tz h1]
    rw [alloc_put (put v a AA ta) _ b BB tb (by first | assumption | (simp only [size_put]; assumption))]
    rw [alloc_put v _ a AA ta (by first | assumption | (simp only [size_put]; assumption))]
  rw [e] at hb
  exact step3 hb (hB.alloc hB.size _) la lb hB.size (by simp only [World.size_alloc]; omega) (by simp only [World.size_alloc]; omega) (by simp only [World.size_alloc]; omega) nab (by omega) (by omega)
theorem new2d {w0 v w' : World} {p n : Nat} {a : Nat} {AA : Array Value} {ta : TypeId} {b : Nat} {BB : Array Value} {tb : TypeId} {ZZ : Array Value} {tz : TypeId} (hb : Below (((put (put v a AA ta) b BB tb).alloc (.cells ZZ tz)).drewN n).heap.size (((put (put v a AA ta) b BB tb).alloc (.cells ZZ tz)).drewN n) w') (hB : Below w0.heap.size w0 v) (hp : v.heap.size = p) (la : w0.heap.size ≤ a) (lb : w0.heap.size ≤ b) (ua : a < p) (ub : b < p) (nab : a ≠ b) :
    ∃ v', w' = (put (put (put v' a AA ta) b BB tb) p ZZ tz) ∧ a < v'.heap.size ∧ b < v'.heap.size ∧ p < v'.heap.size ∧ Below w0.heap.size w0 v' :=
  new2 (sed (Below.refl _ _) hb) hB hp la lb ua ub nab
theorem new3 {w0 v w' : World} {p : Nat} {a : Nat} {AA : Array Value} {ta : TypeId} {b : Nat} {BB : Array Value} {tb : TypeId} {c : Nat} {CC : Array Value} {tc : TypeId} {ZZ : Array Value} {tz : TypeId} (hb : Below ((put (put (put v a AA ta) b BB tb) c CC tc).alloc (.cells ZZ tz)).heap.size ((put (put (put v a AA ta) b BB tb) c CC tc).alloc (.cells ZZ tz)) w') (hB : Below w0.heap.size w0 v) (hp : v.heap.size = p) (la : w0.heap.size ≤ a) (lb : w0.heap.size ≤ b) (lc : w0.heap.size ≤ c) (ua : a < p) (ub : b < p) (uc : c < p) (nab : a ≠ b) (nac : a ≠ c) (nbc : b ≠ c) :
    ∃ v', w' = (put (put (put (put v' a AA ta) b BB tb) c CC tc) p ZZ tz) ∧ a < v'.heap.size ∧ b < v'.heap.size ∧ c < v'.heap.size ∧ p < v'.heap.size ∧ Below w0.heap.size w0 v' := by
  subst hp
  have h1 : (put (put (put (v.alloc (.cells ZZ tz)) a AA ta) b BB tb) c CC tc).heap[v.heap.size]? = some (.cells ZZ tz) := by
    rw [heap_put_other _ _ _ _ (by omega)]
    rw [heap_put_other _ _ _ _ (by omega)]
    rw [heap_put_other _ _ _ _ (by omega)]
    exact heap_alloc_new _ _
  have e : ((put (put (put v a AA ta) b BB tb) c CC tc).alloc (.cells ZZ tz)) = put (put (put (put (v.alloc (.cells ZZ tz)) a AA ta) b BB tb) c CC tc) v.heap.size ZZ tz := by
    rw [put_self (put (put (put (v.alloc (.cells ZZ tz)) a AA ta) b BB tb) c CC tc) v.heap.size ZZ tz h1]
    rw [alloc_put (put (put v a AA ta) b BB tb) _ c CC tc (by first | assumption | (simp only [size_put]; assumption))]
    rw [alloc_put (put v a AA ta) _ b BB tb (by first | assumption | (simp only [size_put]; assumption))]
    rw [alloc_put v _ a AA ta (by first | assumption | (simp only [size_put]; assumption))]
  rw [e] at hb
  exact step4 hb (hB.alloc hB.size _) la lb lc hB.size (by simp only [World.size_alloc]; omega) (by simp only [World.size_alloc]; omega) (by simp only [World.size_alloc]; omega) (by simp only [World.size_alloc]; omega) nab nac (by omega) nbc (by omega) (by omega)
theorem new3d {w0 v w' : World} {p n : Nat} {a : Nat} {AA : Array Value} {ta : TypeId} {b : Nat} {BB : Array Value} {tb : TypeId} {c : Nat} {CC : Array Value} {tc : TypeId} {ZZ : Array Value} {tz : TypeId} (hb : Below (((put (put (put v a AA ta) b BB tb) c CC tc).alloc (.cells ZZ tz)).drewN n).heap.size (((put (put (put v a AA ta) b BB tb) c CC tc).alloc (.cells ZZ tz)).drewN n) w') (hB : Below w0.heap.size w0 v) (hp : v.heap.size = p) (la : w0.heap.size ≤ a) (lb : w0.heap.size ≤ b) (lc : w0.heap.size ≤ c) (ua : a < p) (ub : b < p) (uc : c < p) (nab : a ≠ b) (nac : a ≠ c) (nbc : b ≠ c) :
    ∃ v', w' = (put (put (put (put v' a AA ta) b BB tb) c CC tc) p ZZ tz) ∧ a < v'.heap.size ∧ b < v'.heap.size ∧ c < v'.heap.size ∧ p < v'.heap.size ∧ Below w0.heap.size w0 v' :=
  new3 (sed (Below.refl _ _) hb) hB hp la lb lc ua ub uc nab nac nbc
theorem new4 {w0 v w' : World} {p : Nat} {a : Nat} {AA : Array Value} {ta : TypeId} {b : Nat} {BB : Array Value} {tb : TypeId} {c : Nat} {CC : Array Value} {tc : TypeId} {d : Nat} {DD : Array Value} {td : TypeId} {ZZ : Array Value} {tz : TypeId} (hb : Below ((put (put (put (put v a AA ta) b BB tb) c CC tc) d DD td).alloc (.cells ZZ tz)).heap.size ((put (put (put (put v a AA ta) b BB tb) c CC tc) d DD td).alloc (.cells ZZ tz)) w') (hB : Below w0.heap.size w0 v) (hp : v.heap.size = p) (la : w0.heap.size ≤ a) (lb : w0.heap.size ≤ b) (lc : w0.heap.size ≤ c) (ld : w0.heap.size ≤ d) (ua : a < p) (ub : b < p) (uc : c < p) (ud : d < p) (nab : a ≠ b) (nac : a ≠ c) (nad : a ≠ d) (nbc : b ≠ c) (nbd : b ≠ d) (ncd : c ≠ d) :
    ∃ v', w' = (put (put (put (put (put v' a AA ta) b BB tb) c CC tc) d DD td) p ZZ tz) ∧ a < v'.heap.size ∧ b < v'.heap.size ∧ c < v'.heap.size ∧ d < v'.heap.size ∧ p < v'.heap.size ∧ Below w0.heap.size w0 v' := by
  subst hp
  have h1 : (put (put (put (put (v.alloc (.cells ZZ tz)) a AA ta) b BB tb) c CC tc) d DD td).heap[v.heap.size]? = some (.cells ZZ tz) := by
    rw [heap_put_other _ _ _ _ (by omega)]
    rw [heap_put_other _ _ _ _ (by omega)]
    rw [heap_put_other _ _ _ _ (by omega)]
    rw [heap_put_other _ _ _ _ (by omega)]
    exact heap_alloc_new _ _
  have e : ((put (put (put (put v a AA ta) b BB tb) c CC tc) d DD td).alloc (.cells ZZ tz)) = put (put (put (put (put (v.alloc (.cells ZZ tz)) a AA ta) b BB tb) c CC tc) d DD td) v.heap.size ZZ tz := by
    rw [put_self (put (put (put (put (v.alloc (.cells ZZ tz)) a AA ta) b BB tb) c CC tc) d DD td) v.heap.size ZZ tz h1]
    rw [alloc_put (put (put (put v a AA ta) b BB tb) c CC tc) _ d DD td (by first | assumption | (simp only [size_put]; assumption))]
    rw [alloc_put (put (put v a AA ta) b BB tb) _ c CC tc (by first | assumption | (simp only [size_put]; assumption))]
    rw [alloc_put (put v a AA ta) _ b BB tb (by first | assumption | (simp only [size_put]; assumption))]
    rw [alloc_put v _ a AA ta (by first | assumption | (simp only [size_put]; assumption))]
  rw [e] at hb
  exact step5 hb (hB.alloc hB.size _) la lb lc ld hB.size (by simp only [World.size_alloc]; omega) (by simp only [World.size_alloc]; omega) (by simp only [World.size_alloc]; omega) (by simp only [World.size_alloc]; omega) (by simp only [World.size_alloc]; omega) nab nac nad (by omega) nbc nbd (by omega) ncd (by omega) (by omega)
theorem new4d {w0 v w' : World} {p n : Nat} {a : Nat} {AA : Array Value} {ta : TypeId} {b : Nat} {BB : Array Value} {tb : TypeId} {c : Nat} {CC : Array Value} {tc : TypeId} {d : Nat} {DD : Array Value} {td : TypeId} {ZZ : Array Value} {tz : TypeId} (hb : Below (((put (put (put (put v a AA ta) b BB tb) c CC tc) d DD td).alloc (.cells ZZ tz)).drewN n).heap.size (((put (put (put (put v a AA ta) b BB tb) c CC tc) d DD td).alloc (.cells ZZ tz)).drewN n) w') (hB : Below w0.heap.size w0 v) (hp : v.heap.size = p) (la : w0.heap.size ≤ a) (lb : w0.heap.size ≤ b) (lc : w0.heap.size ≤ c) (ld : w0.heap.size ≤ d) (ua : a < p) (ub : b < p) (uc : c < p) (ud : d < p) (nab : a ≠ b) (nac : a ≠ c) (nad : a ≠ d) (nbc : b ≠ c) (nbd : b ≠ d) (ncd : c ≠ d) :
    ∃ v', w' = (put (put (put (put (put v' a AA ta) b BB tb) c CC tc) d DD td) p ZZ tz) ∧ a < v'.heap.size ∧ b < v'.heap.size ∧ c < v'.heap.size ∧ d < v'.heap.size ∧ p < v'.heap.size ∧ Below w0.heap.size w0 v' :=
  new4 (sed (Below.refl _ _) hb) hB hp la lb lc ld ua ub uc ud nab nac nad nbc nbd ncd
theorem new5 {w0 v w' : World} {p : Nat} {a : Nat} {AA : Array Value} {ta : TypeId} {b : Nat} {BB : Array Value} {tb : TypeId} {c : Nat} {CC : Array Value} {tc : TypeId} {d : Nat} {DD : Array Value} {td : TypeId} {f : Nat} {FF : Array Value} {tf : TypeId} {ZZ : Array Value} {tz : TypeId} (hb : Below ((put (put (put (put (put v a AA ta) b BB tb) c CC tc) d DD td) f FF tf).alloc (.cells ZZ tz)).heap.size ((put (put (put (put (put v a AA ta) b BB tb) c CC tc) d DD td) f FF tf).alloc (.cells ZZ tz)) w') (hB : Below w0.heap.size w0 v) (hp : v.heap.size = p) (la : w0.heap.size ≤ a) (lb : w0.heap.size ≤ b) (lc : w0.heap.size ≤ c) (ld : w0.heap.size ≤ d) (lf : w0.heap.size ≤ f) (ua : a < p) (ub : b < p) (uc : c < p) (ud : d < p) (uf : f < p) (nab : a ≠ b) (nac : a ≠ c) (nad : a ≠ d) (naf : a ≠ f) (nbc : b ≠ c) (nbd : b ≠ d) (nbf : b ≠ f) (ncd : c ≠ d) (ncf : c ≠ f) (ndf : d ≠ f) :
    ∃ v', w' = (put (put (put (put (put (put v' a AA ta) b BB tb) c CC tc) d DD td) f FF tf) p ZZ tz) ∧ a < v'.heap.size ∧ b < v'.heap.size ∧ c < v'.heap.size ∧ d < v'.heap.size ∧ f < v'.heap.size ∧ p < v'.heap.size ∧ Below w0.heap.size w0 v' := by
  subst hp
  have h1 : (put (put (put (put (put (v.alloc (.cells ZZ tz)) a AA ta) b BB tb) c CC tc) d DD td) f FF tf).heap[v.heap.size]? = some (.cells ZZ tz) := by
    rw [heap_put_other _ _ _ _ (by omega)]
    rw [heap_put_other _ _ _ _ (by omega)]
    rw [heap_put_other _ _ _ _ (by omega)]
    rw [heap_put_other _ _ _ _ (by omega)]
    rw [heap_put_other _ _ _ _ (by omega)]
    exact heap_alloc_new _ _
  have e : ((put (put (put (put (put v a AA ta) b BB tb) c CC tc) d DD td) f FF tf).alloc (.cells ZZ tz)) = put (put (put (put (put (put (v.alloc (.cells ZZ tz)) a AA ta) b BB tb) c CC tc) d DD td) f FF tf) v.heap.size ZZ tz := by
    rw [put_self (put (put (put (put (put (v.alloc (.cells ZZ tz)) a AA ta) b BB tb) c CC tc) d DD td) f FF tf) v.heap.size ZZ tz h1]
    rw [alloc_put (put (put (put (put v a AA ta) b BB tb) c CC tc) d DD td) _ f FF tf (by first | assumption | (simp only [size_put]; assumption))]
    rw [alloc_put (put (put (put v a AA ta) b BB tb) c CC tc) _ d DD td (by first | assumption | (simp only [size_put]; assumption))]
    rw [alloc_put (put (put v a AA ta) b BB tb) _ c CC tc (by first | assumption | (simp only [size_put]; assumption))]
    rw [alloc_put (put v a AA ta) _ b BB tb (by first | assumption | (simp only [size_put]; assumption))]
    rw [alloc_put v _ a AA ta (by first | assumption | (simp only [size_put]; assumption))]
  rw [e] at hb
  exact step6 hb (hB.alloc hB.size _) la lb lc ld lf hB.size (by simp only [World.size_alloc]; omega) (by simp only [World.size_alloc]; omega) (by simp only [World.size_alloc]; omega) (by simp only [World.size_alloc]; omega) (by simp only [World.size_alloc]; omega) (by simp only [World.size_alloc]; omega) nab nac nad naf (by omega) nbc nbd nbf (by omega) ncd ncf (by omega) ndf (by omega) (by omega)
theorem new5d {w0 v w' : World} {p n : Nat} {a : Nat} {AA : Array Value} {ta : TypeId} {b : Nat} {BB : Array Value} {tb : TypeId} {c : Nat} {CC : Array Value} {tc : TypeId} {d : Nat} {DD : Array Value} {td : TypeId} {f : Nat} {FF : Array Value} {tf : TypeId} {ZZ : Array Value} {tz : TypeId} (hb : Below (((put (put (put (put (put v a AA ta) b BB tb) c CC tc) d DD td) f FF tf).alloc (.cells ZZ tz)).drewN n).heap.size (((put (put (put (put (put v a AA ta) b BB tb) c CC tc) d DD td) f FF tf).alloc (.cells ZZ tz)).drewN n) w') (hB : Below w0.heap.size w0 v) (hp : v.heap.size = p) (la : w0.heap.size ≤ a) (lb : w0.heap.size ≤ b) (lc : w0.heap.size ≤ c) (ld : w0.heap.size ≤ d) (lf : w0.heap.size ≤ f) (ua : a < p) (ub : b < p) (uc : c < p) (ud : d < p) (uf : f < p) (nab : a ≠ b) (nac : a ≠ c) (nad : a ≠ d) (naf : a ≠ f) (nbc : b ≠ c) (nbd : b ≠ d) (nbf : b ≠ f) (ncd : c ≠ d) (ncf : c ≠ f) (ndf : d ≠ f) :
    ∃ v', w' = (put (put (put (put (put (put v' a AA ta) b BB tb) c CC tc) d DD td) f FF tf) p ZZ tz) ∧ a < v'.heap.size ∧ b < v'.heap.size ∧ c < v'.heap.size ∧ d < v'.heap.size ∧ f < v'.heap.size ∧ p < v'.heap.size ∧ Below w0.heap.size w0 v' :=
  new5 (sed (Below.refl _ _) hb) hB hp la lb lc ld lf ua ub uc ud uf nab nac nad naf nbc nbd nbf ncd ncf ndf
end Go.Proofs.Ytaoelppkognakaa.Wd
