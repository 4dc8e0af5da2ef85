/-
  Law: the reference's view says what the view says (seawallref14).
-/
import Derived.Test.YtmkhggfcgblefaaDoorBeatCalmLaw
namespace Go.Proofs.YtmkhggfcgblefaaDoor
open Go Go.RowKit Bin

structure Rv where
  sites : List Int
  me : Nat
  pat : Int
  now : Int
  heard : List Int
  changed : Int
structure Rv.Ok (r : Rv) (N : Int) : Prop where
  n : 1 ≤ r.sites.length ∧ r.sites.length ≤ 12
  len : r.heard.length = r.sites.length
  me : r.me < r.sites.length
  pat : 1 ≤ r.pat ∧ r.pat ≤ 1000
  now : 0 ≤ r.now ∧ r.now ≤ N
  heard : ∀ j, j < r.heard.length → -1000 ≤ el r.heard j ∧ el r.heard j ≤ r.now
  changed : 0 ≤ r.changed ∧ r.changed ≤ r.now
def ageR (r : Rv) (k : Nat) : Int := if k = r.me then 0 else if r.pat < r.now - el r.heard k then r.pat else r.now - el r.heard k
def calmR (r : Rv) : Int := if 1000 < r.now - r.changed then 1000 else r.now - r.changed
def toBv (r : Rv) : Bv := ⟨r.sites, r.me, r.pat, (List.range r.sites.length).map (ageR r), calmR r⟩
theorem toBv_len (r : Rv) : (toBv r).since.length = r.sites.length := by unfold toBv; rw [List.length_map, List.length_range]
theorem toBv_el (r : Rv) {k : Nat} (h : k < r.sites.length) : el (toBv r).since k = ageR r k := el_range h
def laterR (r : Rv) : Rv := { r with now := r.now + 1 }
def tickR (r : Rv) : Rv := if upN (toBv (laterR r)) ≠ upN (toBv r) then { laterR r with changed := r.now + 1 } else laterR r
def heardR (r : Rv) (k : Nat) : Rv := { r with heard := r.heard.set k r.now }
def hearR (r : Rv) (k : Nat) : Rv := if upN (toBv (heardR r k)) ≠ upN (toBv r) then { heardR r k with changed := r.now } else heardR r k
def hearRZ (r : Rv) (z : Int) : Rv := if 0 ≤ z ∧ z < (r.sites.length : Int) then hearR r z.toNat else r
def newR (sites : List Int) (me : Nat) (pat : Int) : Rv := ⟨sites, me, pat, 0, List.replicate sites.length (-pat), 0⟩
theorem list_el {l m : List Int} (h : l.length = m.length) (e : ∀ k, k < l.length → el l k = el m k) : l = m := by
  refine List.ext_getElem h fun k h1 h2 => ?_
  have := e k h1
  have e1 : l[k] = el l k := by simp [el, h1]
  have e2 : m[k] = el m k := by simp [el, h2]
  rw [e1, e2, this]
theorem later_since {r : Rv} {N : Int} (ok : r.Ok N) : (toBv (laterR r)).since = oldS (toBv r) := by
  have hl : (oldS (toBv r)).length = r.sites.length := by rw [oldS_length, toBv_len]
  refine list_el (by rw [hl, toBv_len]; rfl) fun k hk => ?_
  rw [toBv_len] at hk
  have hk' : k < r.sites.length := hk
  rw [toBv_el _ hk, oldS_el (by rw [toBv_len]; exact hk'), toBv_el r hk']
  have hh := ok.heard k (by rw [ok.len]; exact hk')
  have hp := ok.pat
  show (if k = r.me then (0 : Int) else if r.pat < r.now + 1 - el r.heard k then r.pat else r.now + 1 - el r.heard k) = if k = r.me then ageR r k else min (ageR r k + 1) r.pat
  unfold ageR
  by_cases e : k = r.me
  · rw [if_pos e, if_pos e, if_pos e]
  · rw [if_neg e, if_neg e, if_neg e]
    split <;> split <;> omega
theorem tick_bv {r : Rv} {N : Int} (ok : r.Ok N) : toBv (tickR r) = tickS (toBv r) := by
  have e := later_since ok
  have eu : upN (toBv (laterR r)) = upN { toBv r with since := oldS (toBv r) } := upN_of e rfl
  have hc := ok.changed
  unfold tickS tickR
  rw [← eu]
  by_cases h : upN (toBv (laterR r)) ≠ upN (toBv r)
  · rw [if_pos h, if_pos h]
    show Bv.mk r.sites r.me r.pat (toBv (laterR r)).since (if 1000 < r.now + 1 - (r.now + 1) then 1000 else r.now + 1 - (r.now + 1)) = _
    rw [e, if_neg (by omega), show r.now + 1 - (r.now + 1) = 0 by omega]
    rfl
  · rw [if_neg h, if_neg h]
    show Bv.mk r.sites r.me r.pat (toBv (laterR r)).since (if 1000 < r.now + 1 - r.changed then 1000 else r.now + 1 - r.changed) = Bv.mk r.sites r.me r.pat (oldS (toBv r)) (min (calmR r + 1) 1000)
    rw [e]
    congr 1
    unfold calmR
    split <;> split <;> omega
theorem heard_since {r : Rv} {N : Int} (ok : r.Ok N) {k : Nat} (hk : k < r.sites.length) : (toBv (heardR r k)).since = (toBv r).since.set k 0 := by
  refine list_el (by rw [List.length_set, toBv_len, toBv_len]; rfl) fun j hj => ?_
  rw [toBv_len] at hj
  have hj' : j < r.sites.length := hj
  rw [toBv_el _ hj, el_set _ _ _ _ (by rw [toBv_len]; exact hk), toBv_el r hj']
  have hp := ok.pat
  show (if j = r.me then (0 : Int) else if r.pat < r.now - el (r.heard.set k r.now) j then r.pat else r.now - el (r.heard.set k r.now) j) = _
  rw [el_set _ _ _ _ (by rw [ok.len]; exact hk)]
  unfold ageR
  by_cases e : j = r.me
  · rw [if_pos e, if_pos e]
    split <;> rfl
  · rw [if_neg e, if_neg e]
    by_cases q : k = j
    · rw [if_pos q, if_pos q, if_neg (by omega)]
      omega
    · rw [if_neg q, if_neg q]
theorem hear_bv {r : Rv} {N : Int} (ok : r.Ok N) {k : Nat} (hk : k < r.sites.length) : toBv (hearR r k) = hearS (toBv r) k := by
  have e := heard_since ok hk
  have eu : upN (toBv (heardR r k)) = upN { toBv r with since := (toBv r).since.set k 0 } := upN_of e rfl
  unfold hearS hearR
  rw [← eu]
  by_cases h : upN (toBv (heardR r k)) ≠ upN (toBv r)
  · rw [if_pos h, if_pos h]
    show Bv.mk r.sites r.me r.pat (toBv (heardR r k)).since (if 1000 < r.now - r.now then 1000 else r.now - r.now) = _
    rw [e, if_neg (by omega), show r.now - r.now = 0 by omega]
    rfl
  · rw [if_neg h, if_neg h]
    show Bv.mk r.sites r.me r.pat (toBv (heardR r k)).since (calmR r) = _
    rw [e]
    rfl
theorem hearZ_bv {r : Rv} {N : Int} (ok : r.Ok N) (z : Int) : toBv (hearRZ r z) = hearZ (toBv r) z := by
  unfold hearRZ hearZ
  have e : (toBv r).sites = r.sites := rfl
  rw [e]
  by_cases h : 0 ≤ z ∧ z < (r.sites.length : Int)
  · rw [if_pos h, if_pos h]
    exact hear_bv ok (by omega)
  · rw [if_neg h, if_neg h]
theorem new_bv (sites : List Int) (me : Nat) {pat : Int} (hm : me < sites.length) : toBv (newR sites me pat) = newV sites me pat := by
  show Bv.mk sites me pat (toBv (newR sites me pat)).since (if (1000 : Int) < 0 - 0 then 1000 else 0 - 0) = Bv.mk sites me pat ((List.replicate sites.length pat).set me 0) 0
  have e : (toBv (newR sites me pat)).since = (List.replicate sites.length pat).set me 0 := by
    refine list_el (by rw [List.length_set, List.length_replicate, toBv_len]; rfl) fun k hk => ?_
    rw [toBv_len] at hk
    have hk' : k < sites.length := hk
    have er : ∀ x : Int, el (List.replicate sites.length x) k = x := fun x => by unfold el; rw [List.getElem?_replicate, if_pos hk']; rfl
    rw [toBv_el _ hk, el_set _ _ _ _ (by rw [List.length_replicate]; exact hm), er]
    show (if k = me then (0 : Int) else if pat < 0 - el (List.replicate sites.length (-pat)) k then pat else 0 - el (List.replicate sites.length (-pat)) k) = _
    rw [er]
    by_cases q : k = me
    · rw [if_pos q, if_pos q.symm]
    · rw [if_neg q, if_neg (by omega), if_neg (fun q2 : me = k => q q2.symm)]
      omega
  rw [e, if_neg (by decide)]
  rfl
theorem tickR_ok {r : Rv} {N : Int} (ok : r.Ok N) : (tickR r).Ok (N + 1) := by
  have hn := ok.now
  have hc := ok.changed
  have h1 : (laterR r).Ok (N + 1) := ⟨ok.n, ok.len, ok.me, ok.pat, by show 0 ≤ r.now + 1 ∧ r.now + 1 ≤ N + 1; omega, fun j hj => by have := ok.heard j hj; show -1000 ≤ el r.heard j ∧ el r.heard j ≤ r.now + 1; omega, by show 0 ≤ r.changed ∧ r.changed ≤ r.now + 1; omega⟩
  unfold tickR
  split
  · exact ⟨h1.n, h1.len, h1.me, h1.pat, h1.now, h1.heard, by show 0 ≤ r.now + 1 ∧ r.now + 1 ≤ r.now + 1; omega⟩
  · exact h1
theorem hearR_ok {r : Rv} {N : Int} (ok : r.Ok N) {k : Nat} (hk : k < r.sites.length) : (hearR r k).Ok N := by
  have hn := ok.now
  have hc := ok.changed
  have h1 : (heardR r k).Ok N := ⟨ok.n, by show (r.heard.set k r.now).length = _; rw [List.length_set]; exact ok.len, ok.me, ok.pat, ok.now, fun j hj => by
    have hj' : j < r.heard.length := by
      have h0 : j < (r.heard.set k r.now).length := hj
      rw [List.length_set] at h0
      exact h0
    have := ok.heard j hj'
    show -1000 ≤ el (r.heard.set k r.now) j ∧ el (r.heard.set k r.now) j ≤ r.now
    rw [el_set _ _ _ _ (by rw [ok.len]; exact hk)]
    split <;> omega, ok.changed⟩
  unfold hearR
  split
  · exact ⟨h1.n, h1.len, h1.me, h1.pat, h1.now, h1.heard, by show 0 ≤ r.now ∧ r.now ≤ r.now; omega⟩
  · exact h1
theorem hearRZ_ok {r : Rv} {N : Int} (ok : r.Ok N) (z : Int) : (hearRZ r z).Ok N := by
  unfold hearRZ
  split
  · exact hearR_ok ok (by omega)
  · exact ok
end Go.Proofs.YtmkhggfcgblefaaDoor
