import Derived.Test.YtepodifionoigaaGreatDoorVcRd2
import Derived.Laws.MakeOwn
set_option linter.unusedVariables false
set_option linter.unusedSimpArgs false
namespace Go.Vc
variable {P : Program} {w : World}

theorem Same.alloc (w : World) (o : Obj) : Same w { w with heap := w.heap.push o } := ⟨rfl, rfl, rfl, Nat.le_refl _⟩
theorem setCell_eq (w : World) (b o : Nat) (v : Value) : w.setCell ⟨b, o, none⟩ v = { w with heap := setc w.heap b o v } := by
  unfold World.setCell setc; rfl
theorem wr_cell {h : Heap} {b o : Nat} (hw : wr h b o) : ∃ v, cell h b o = some v := by
  obtain ⟨c, e, lo, hi, h1, h2, _⟩ := hw
  exact ⟨c[o], by simp [cell, h1, h2]⟩
theorem wr_frozen {w : World} {b o : Nat} (hw : wr w.heap b o) : w.frozen? ⟨b, o, none⟩ = false := by
  obtain ⟨c, e, lo, hi, h1, h2, h3⟩ := hw
  simp only [World.frozen?, h1]
  simpa using fun a => by omega
theorem run_store_wr {b o : Nat} {v : Value} (hw : wr w.heap b o) (hv : v.oneCell' = true) : (store ⟨b, o, none⟩ v).run P w = .ok () { w with heap := setc w.heap b o v } := by
  obtain ⟨u, hu⟩ := wr_cell hw
  have h1 : w.cell? ⟨b, o, none⟩ = some u := by rw [cell?_eq]; exact hu
  rw [run_store P w _ v .plain hv, h1]
  simp [wr_frozen hw, setCell_eq]
theorem setc_get {h : Heap} {b o : Nat} {v : Value} {c : Array Value} {e : TypeId} {f : Nat × Nat} (hb : h[b]? = some (.cells c e f)) : (setc h b o v)[b]? = some (.cells (c.setIfInBounds o v) e f) := by
  have hlt := (Array.getElem?_eq_some_iff.1 hb).1
  have hv := (Array.getElem?_eq_some_iff.1 hb).2
  unfold setc
  rw [Array.getElem?_eq_getElem (by simpa using hlt), Array.getElem_modify_self, hv]
theorem wrs_wr {h : Heap} {b o n i : Nat} (hw : wrs h b o n) (hi : i < n) : wr h b (o + i) := by
  obtain ⟨c, e, lo, hi', h1, h2, h3⟩ := hw
  exact ⟨c, e, lo, hi', h1, by omega, by omega⟩
theorem wrs_next {h : Heap} {b o n : Nat} {v : Value} (hw : wrs h b o (n + 1)) : wrs (setc h b o v) b (o + 1) n := by
  obtain ⟨c, e, lo, hi', h1, h2, h3⟩ := hw
  exact ⟨_, e, lo, hi', setc_get h1, by simp; omega, by omega⟩
theorem run_storeCells_wrs {b o : Nat} : ∀ {vs : List Value} {i : Nat} {w : World}, wrs w.heap b (o + i) vs.length → (∀ u ∈ vs, u.oneCell' = true) →
    (storeCells ⟨b, o, none⟩ vs i).run P w = .ok () { w with heap := setr w.heap b (o + i) vs }
  | [], i, w, _, _ => rfl
  | v :: vs, i, w, hw, h1 => by
    have e1 : (store ⟨b, o + i, none⟩ v).run P w = .ok () { w with heap := setc w.heap b (o + i) v } :=
      run_store_wr (by have := wrs_wr hw (i := 0) (by simp); simpa using this) (h1 v (by simp))
    have e2 := run_storeCells_wrs (b := b) (o := o) (vs := vs) (i := i + 1) (w := { w with heap := setc w.heap b (o + i) v }) (by have := wrs_next (v := v) hw; simpa [Nat.add_assoc] using this) (fun u hu => h1 u (by simp [hu]))
    simp only [storeCells, Sem.run_bind, add_eq, e1, Result.andThen_ok, e2]
    simp [setr, Nat.add_assoc]
theorem okc_spec {v : Value} {X : Prop} (h : okc v X) : v.oneCell' = true ∧ X := by cases v <;> first | exact ⟨rfl, h⟩ | exact h.elim
theorem cells_one {v : Value} (h : v.oneCell' = true) : v.cells = #[v] := by cases v <;> first | rfl | cases h

theorem stv_sound {t : TypeId} {h : Heap} {b o : Nat} {v : Value} {K : Heap → Prop} (hr : stv P t h b o v K) (hw : w.heap = h) :
    ∃ w', (Instr.storeAt t (.pointer (some ⟨b, o, none⟩)) v).run P w = .ok () w' ∧ Same w w' ∧ K w'.heap := by
  subst hw
  have main : ∀ {t : TypeId}, hasInfo P t = true → ∀ {v : Value}, v.cells.toList.length = sz P t → wrs w.heap b o v.cells.toList.length → (∀ u ∈ v.cells.toList, u.oneCell' = true) →
      (Instr.storeAt t (.pointer (some ⟨b, o, none⟩)) v).run P w = .ok () { w with heap := setr w.heap b o v.cells.toList } := by
    intro t hi v hl hws h1
    have e2 := run_sizeOf (P := P) hi w
    have e3 := run_storeCells_wrs (P := P) (b := b) (o := o) (vs := v.cells.toList) (i := 0) (w := w) (by simpa using hws) h1
    have hl' : v.cells.size = sz P t := by simpa using hl
    simp only [Nat.add_zero] at e3
    simp [Instr.storeAt, Instr.sureAddr, storeVar, e2, hl', e3]
  unfold stv at hr
  split at hr
  · rename_i hu
    split at hr
    · rename_i cs hi
      obtain ⟨⟨h1, h2, h3⟩, h4⟩ := hr
      exact ⟨_, main hi (v := .agg cs) h1 (by simp only [Value.cells]; rw [h1]; exact h2) h3, ⟨rfl, rfl, rfl, Nat.le_refl _⟩, h4 _ rfl⟩
    · exact hr.elim
  · rename_i hu
    split at hr
    · rename_i cs hi
      obtain ⟨⟨h1, h2, h3⟩, h4⟩ := hr
      exact ⟨_, main hi (v := .agg cs) h1 (by simp only [Value.cells]; rw [h1]; exact h2) h3, ⟨rfl, rfl, rfl, Nat.le_refl _⟩, h4 _ rfl⟩
    · exact hr.elim
  · split at hr
    · rename_i hi hs
      obtain ⟨hv, hwr, hK⟩ := okc_spec hr
      have hc := cells_one hv
      refine ⟨_, main hi (v := v) (by rw [hc, hs]; rfl) ?_ (by rw [hc]; simpa using hv), ⟨rfl, rfl, rfl, Nat.le_refl _⟩, hK _ (by rw [hc]; rfl)⟩
      rw [hc]
      obtain ⟨c, e, lo, hi', h1, h2, h3⟩ := hwr
      exact ⟨c, e, lo, hi', h1, by simp; omega, by simp; omega⟩
    · exact hr.elim
  · exact hr.elim

theorem run_firstCells {size n : Nat} {a : Option Addr} {l c : Nat} {cs : List Value} (hs : src w.heap a (n * size) cs) : (Builtin.firstCells size n (.slice a l c)).run P w = .ok cs.toArray w := by
  unfold src at hs
  split at hs
  · subst hs; rfl
  · exact run_loadCells_of_row hs rfl
  · obtain ⟨h1, rfl⟩ := hs
    simp only [Builtin.firstCells, h1]
    exact run_loadCells_list w _ [] (by simp)
theorem infoBytes {e : TypeId} {i : TypeInfo} (hi : P.info? e = some i) : bytesOf P e = i.bytes := by simp [bytesOf, hi]


theorem zok_spec {t : TypeId} (h : zok P t = true) : ∃ i, P.info? t = some i ∧ ∃ z, i.zero = some z ∧ z.cells.size = i.size := by
  unfold zok at h
  split at h
  · rename_i i hi
    split at h
    · rename_i z hz
      exact ⟨i, hi, z, hz, by simpa using Nat.eq_of_beq_eq_true h⟩
    · cases h
  · cases h
theorem appv_sound {T T2 e2 : TypeId} {s x : Value} {h : Heap} {K : Value → Heap → Prop} (ht2 : P.underlying T2 = some (.slice e2)) (hr : appv P T s x h K) (hw : w.heap = h) (ty : TypeId) :
    ∃ v w', (Builtin.append_ #[T, T2] ty #[s, x]).run P w = .ok v w' ∧ Same w w' ∧ K v w'.heap := by
  subst hw
  unfold appv at hr
  split at hr
  · rename_i e hu
    split at hr
    · rename_i a len cap a2 len2 c2 hzi
      obtain ⟨news, ⟨h1, h2⟩, hroom, hgrow⟩ := hr
      obtain ⟨i, hinf, z, hz0, hzs⟩ := zok_spec hzi
      have hi : hasInfo P e = true := by simp [hasInfo, hinf]
      have hsz : sz P e = i.size := by simp [sz, hinf]
      have e1 := run_underlying (P := P) hu w
      have e3 := run_underlying (P := P) ht2 w
      have eS := run_sizeOf (P := P) hi w
      have eN := run_firstCells (P := P) (size := sz P e) (n := len2) (a := a2) (l := len2) (c := c2) h1
      by_cases hle : len + len2 ≤ cap
      · have hk := hroom hle
        unfold appIn at hk
        split at hk
        · refine ⟨_, w, ?_, Same.refl w, hk⟩
          simp [Builtin.append_, e1, e3, eS, Builtin.lenOf, hle, eN]
        · rename_i b o
          obtain ⟨hws, hK⟩ := hk
          have eC := run_storeCells_wrs (P := P) (b := b) (o := o + len * sz P e) (vs := news) (i := 0) (w := w) (by simpa using hws) h2
          simp only [Nat.add_zero] at eC
          refine ⟨_, { w with heap := setr w.heap b (o + len * sz P e) news }, ?_, ⟨rfl, rfl, rfl, Nat.le_refl _⟩, hK _ rfl⟩
          simp [Builtin.append_, e1, e3, eS, Builtin.lenOf, hle, eN, add_eq, eC]
        · exact hk.elim
      · obtain ⟨⟨hb1, hb2⟩, olds, ho, hK⟩ := hgrow (by omega)
        rw [infoBytes hinf] at hb1 hb2
        have hfit : ¬ Builtin.nextslicecap (len + len2) cap * i.bytes > 281474976710656 := by
          have := growslice_fits (need := len + len2) (old := cap) (bytes := i.bytes) (by omega) hb1
          omega
        have hb0 : ¬ i.bytes = 0 := by omega
        have hcl := hK (grownCap w (len + len2) cap e) (Builtin.zeroCells z.cells (grownCap w (len + len2) cap e - (len + len2))).toList w.heap.size
          (w.heap.push (.cells (olds ++ news ++ (Builtin.zeroCells z.cells (grownCap w (len + len2) cap e - (len + len2))).toList).toArray e)) (grownCap_ge w _ _ _)
          (by rw [Array.length_toList, size_zeroCells, hzs, hsz]) rfl rfl
        have hA : (olds ++ news ++ (Builtin.zeroCells z.cells (grownCap w (len + len2) cap e - (len + len2))).toList).toArray = olds.toArray ++ news.toArray ++ Builtin.zeroCells z.cells (grownCap w (len + len2) cap e - (len + len2)) := by
          apply Array.ext'; simp
        rw [hA] at hcl
        refine ⟨_, w.drew.alloc (.cells (olds.toArray ++ news.toArray ++ Builtin.zeroCells z.cells (grownCap w (len + len2) cap e - (len + len2))) e), ?_, ⟨rfl, rfl, rfl, Nat.le_succ _⟩, hcl⟩
        have e0 := run_firstCells (P := P) (w := w.drew) (size := sz P e) (n := len) (a := a) (l := len) (c := cap) ho
        have eN' := run_firstCells (P := P) (w := w.drew) (size := sz P e) (n := len2) (a := a2) (l := len2) (c := c2) h1
        simp [Builtin.append_, e1, e3, eS, Builtin.lenOf, hle, typeInfo, hinf, hb0, hfit, Question.forced, e0, eN', zeroValue, hz0, newRow, grownCap]
        have cg : ∀ x y : Array Value, x = y → w.drew.alloc (.cells x e) = w.drew.alloc (.cells y e) := fun _ _ h => by rw [h]
        exact cg _ _ (by apply Array.ext'; simp)
    · exact hr.elim
  · exact hr.elim

theorem alc_sound {h : Heap} {T : TypeId} {v : Value} {K : Value → Heap → Prop} (hr : alc h T v.cells.toList fun b h1 => K (.pointer (some ⟨b, 0, none⟩)) h1) (hw : w.heap = h) :
    ∃ w', (Instr.box T v).run P w = .ok (.pointer (some ⟨w.heap.size, 0, none⟩)) w' ∧ Same w w' ∧ K (.pointer (some ⟨w.heap.size, 0, none⟩)) w'.heap := by
  subst hw
  refine ⟨{ w with heap := w.heap.push (.cells v.cells T) }, ?_, ⟨rfl, rfl, rfl, Nat.le_refl _⟩, hr _ _ rfl (by simp)⟩
  simp [Instr.box, newVar, newRow]
theorem zerov_spec {t : TypeId} {K : Value → Prop} (h : zerov P t K) : ∃ i z, P.info? t = some i ∧ i.zero = some z ∧ K z := by
  unfold zerov at h
  split at h
  · rename_i i hi
    split at h
    · rename_i z hz; exact ⟨i, z, hi, hz, h⟩
    · exact h.elim
  · exact h.elim

theorem joinL_replicate (z : List Value) : ∀ (n j : Nat), j < n * z.length → (joinL (List.replicate n z))[j]? = z[j % z.length]?
  | 0, j, h => by simp at h
  | n + 1, j, h => by
    rw [List.replicate_succ]; simp only [joinL]
    rw [List.getElem?_append]
    split
    · rename_i hlt; rw [Nat.mod_eq_of_lt hlt]
    · rename_i hlt
      rw [joinL_replicate z n (j - z.length) (by rw [Nat.succ_mul] at h; omega), ← Nat.mod_eq_sub_mod (by omega)]
theorem sumL_replicate (n m : Nat) : sumL (List.replicate n m) = n * m := by
  induction n with
  | zero => simp [sumL]
  | succ n ih => rw [List.replicate_succ]; simp only [sumL]; rw [ih, Nat.succ_mul]; omega
theorem range_cells (z : Array Value) (n : Nat) : (Array.range (n * z.size)).map (fun i => z[i % z.size]!) = (joinL (List.replicate n z.toList)).toArray := by
  apply Array.ext
  · simp only [Array.size_map, Array.size_range, List.size_toArray, joinL_length, List.map_replicate, sumL_replicate, Array.length_toList]
  · intro i h1 h2
    simp only [Array.size_map, Array.size_range] at h1
    have hz : 0 < z.size := by
      rcases Nat.eq_zero_or_pos z.size with h | h
      · rw [h] at h1; simp at h1
      · exact h
    have hm : i % z.size < z.size := Nat.mod_lt _ hz
    have e := joinL_replicate z.toList n i (by simpa using h1)
    have e2 : (joinL (List.replicate n z.toList))[i]? = some z[i % z.size] := by
      rw [e]; simp [hm]
    have e3 : (joinL (List.replicate n z.toList)).toArray[i] = z[i % z.size] := by
      have := List.getElem?_eq_some_iff.1 e2
      obtain ⟨_, h4⟩ := this
      simpa using h4
    rw [e3]
    simp [hm]
theorem bslv_sound {t : TypeId} {len : Nat} {parts : List (Nat × Value)} {h : Heap} {K : Value → Heap → Prop} (hr : bslv P t len parts h K) (hw : w.heap = h) :
    ∃ v w', (Instr.buildSlice t len parts.toArray).run P w = .ok v w' ∧ Same w w' ∧ K v w'.heap := by
  subst hw
  unfold bslv at hr
  split at hr
  · rename_i e hu
    split at hr
    · rename_i hzok hle
      obtain ⟨i, z, hi, hz, hr2⟩ := zerov_spec hr
      obtain ⟨i', hi', z', hz', hs⟩ := zok_spec hzok
      rw [hi] at hi'; cases hi'
      rw [hz] at hz'; cases hz'
      have hsz : sz P e = i.size := by simp [sz, hi]
      have hle := Nat.le_of_ble_eq_true hle
      obtain ⟨ch', k1, _, k3⟩ := fill_chunks (place := fun j => some (j * sz P e, sz P e)) (fun j n hn => by
          obtain ⟨r1, r2⟩ := replicate_get hn
          rw [sumL_replicate_take r1, r2]) (by rw [List.map_replicate, Array.length_toList, hs, hsz]) hr2
      refine ⟨_, _, ?_, Same.alloc w _, k1 _ _ rfl rfl⟩
      have e1 := run_underlying (P := P) hu w
      have hno : ¬ 16777216 < len * i.size := by rw [hsz] at hle; omega
      have hn : Instr.fill (fun j => some (j * i.size, i.size)) ((Array.range (len * i.size)).map (fun j => (if len * i.size = 0 then #[] else z.cells)[j % (if len * i.size = 0 then #[] else z.cells).size]!)) parts = some (joinL ch').toArray := by
        rw [hsz] at k3
        rw [← k3]
        congr 1
        by_cases h0 : len * i.size = 0
        · have : (joinL (List.replicate len z.cells.toList)).toArray = #[] := by
            have hl : (joinL (List.replicate len z.cells.toList)).length = 0 := by
              rw [joinL_length, List.map_replicate, sumL_replicate, Array.length_toList, hs, h0]
            rw [List.eq_nil_of_length_eq_zero hl]
          rw [this, h0]; simp
        · rw [if_neg h0, ← range_cells, hs]
      by_cases h0 : len * i.size = 0
      · have hn' : Instr.fill (fun j => some (j * i.size, i.size)) #[] parts = some (joinL ch').toArray := by rw [← hn, h0]; simp [Array.range_zero']
        simp [Instr.buildSlice, e1, sizeOf, typeInfo, hi, zeroValue, hz, hno, h0, hn', newRow, Array.range_zero']
      · simp only [h0, if_false] at hn
        simp [Instr.buildSlice, e1, sizeOf, typeInfo, hi, zeroValue, hz, hno, h0, hn, newRow]
    · exact hr.elim
  · exact hr.elim
theorem mslv_sound {t : TypeId} {l c : Value} {h : Heap} {K : Value → Heap → Prop} (hr : mslv P t l c h K) (hw : w.heap = h) :
    ∃ v w', (Instr.makeSlice t l c).run P w = .ok v w' ∧ Same w w' ∧ K v w'.heap := by
  subst hw
  unfold mslv at hr
  split at hr
  · rename_i e hu
    split at hr
    · rename_i kl l kc c hzok
      obtain ⟨⟨h1, h2, h3, h4⟩, hr⟩ := hr
      obtain ⟨i, z, hi, hz, hr2⟩ := zerov_spec hr
      obtain ⟨i', hi', z', hz', hs⟩ := zok_spec hzok
      rw [hi] at hi'; cases hi'
      rw [hz] at hz'; cases hz'
      rw [infoBytes hi] at h3
      have hm := run_make (P := P) w t e i z hu hi hz kl kc l c h1 h2 h3 h4
      refine ⟨_, _, hm, ?_, hr2 _ _ rfl ?_⟩
      · exact Same.alloc w _
      · have : madeCells z.cells (c.toNat * i.size) = (joinL (List.replicate c.toNat z.cells.toList)).toArray := by
          rw [← hs, ← range_cells]; rfl
        rw [this]; rfl
    · exact hr.elim
  · exact hr.elim
theorem copyv_sound {T T2 : TypeId} {d s : Value} {h : Heap} {K : Value → Heap → Prop} (hr : copyv P T d s h K) (hw : w.heap = h) (ty : TypeId) :
    ∃ v w', (Builtin.copy_ #[T, T2] ty #[d, s]).run P w = .ok v w' ∧ Same w w' ∧ K v w'.heap := by
  subst hw
  unfold copyv at hr
  split at hr
  · rename_i e hu
    split at hr
    · rename_i a len cap a2 len2 c2 hi
      obtain ⟨news, ⟨h1, h2⟩, hk⟩ := hr
      have e1 := run_underlying (P := P) hu w
      have eS := run_sizeOf (P := P) hi w
      have eN := run_firstCells (P := P) (size := sz P e) (n := min len2 len) (a := a2) (l := len2) (c := c2) h1
      have em : Nat.min len2 len = min len2 len := rfl
      unfold cpIn at hk
      split at hk
      · refine ⟨_, w, ?_, Same.refl w, hk⟩
        simp [Builtin.copy_, e1, eS, Builtin.lenOf, em, eN, goInt]
      · rename_i b o
        obtain ⟨hws, hK⟩ := hk
        have eC := run_storeCells_wrs (P := P) (b := b) (o := o) (vs := news) (i := 0) (w := w) (by simpa using hws) h2
        simp only [Nat.add_zero] at eC
        refine ⟨_, { w with heap := setr w.heap b o news }, ?_, ⟨rfl, rfl, rfl, Nat.le_refl _⟩, hK _ rfl⟩
        simp [Builtin.copy_, e1, eS, Builtin.lenOf, em, eN, goInt, eC]
      · exact hk.elim
    · exact hr.elim
  · exact hr.elim
theorem zeroCells_join {i : TypeInfo} {z : Value} (n : Nat) : Builtin.zeroCells z.cells n = (joinL (List.replicate n z.cells.toList)).toArray := range_cells z.cells n
theorem joinL_one {l : List Value} (h1 : ∀ u ∈ l, u.oneCell' = true) : ∀ n : Nat, ∀ u ∈ joinL (List.replicate n l), u.oneCell' = true
  | 0, u, hu => by cases hu
  | n + 1, u, hu => by
    have hu : u ∈ l ++ joinL (List.replicate n l) := hu
    rcases List.mem_append.1 hu with h | h
    · exact h1 u h
    · exact joinL_one h1 n u h
theorem clrv_sound {T : TypeId} {s : Value} {h : Heap} {K : Heap → Prop} (hr : clrv P T s h K) (hw : w.heap = h) (ty : TypeId) :
    ∃ w', (Builtin.clear_ #[T] ty #[s]).run P w = .ok (.tuple #[]) w' ∧ Same w w' ∧ K w'.heap := by
  subst hw
  unfold clrv at hr
  split at hr
  · rename_i e a len cap hu
    have e1 := run_underlying (P := P) hu w
    split at hr
    · exact ⟨w, by cases a <;> simp [Builtin.clear_, e1], Same.refl w, hr⟩
    · rename_i len
      obtain ⟨i, z, hi, hz, h1, hk⟩ := zerov_spec hr
      have e0 : (zeroValue e).run P w = .ok z w := by simp [zeroValue, typeInfo, hi, hz]
      unfold cpIn at hk
      split at hk
      · exact ⟨w, by simp [Builtin.clear_, e1], Same.refl w, hk⟩
      · rename_i b o
        obtain ⟨hws, hK⟩ := hk
        have eC := run_storeCells_wrs (P := P) (b := b) (o := o) (vs := joinL (List.replicate (len + 1) z.cells.toList)) (i := 0) (w := w) (by simpa using hws) (joinL_one h1 _)
        simp only [Nat.add_zero] at eC
        refine ⟨{ w with heap := setr w.heap b o (joinL (List.replicate (len + 1) z.cells.toList)) }, ?_, ⟨rfl, rfl, rfl, Nat.le_refl _⟩, hK _ rfl⟩
        simp [Builtin.clear_, e1, e0, zeroCells_join (i := i), eC]
      · exact hk.elim
  · exact hr.elim
theorem apmv_sound {T T2 : TypeId} {k2 : IntKind} {s x : Value} {h : Heap} {K : Value → Heap → Prop} (ht2 : P.underlying T2 = some (.int k2)) (hr : apmv P T s x h K) (hw : w.heap = h) (ty : TypeId) :
    ∃ v w', (Builtin.append_ #[T, T2] ty #[s, x]).run P w = .ok v w' ∧ Same w w' ∧ K v w'.heap := by
  subst hw
  unfold apmv at hr
  split at hr
  · rename_i e hu
    split at hr
    · rename_i a len cap n hzi
      obtain ⟨⟨hn0, hbm, hnm⟩, hr⟩ := hr
      obtain ⟨i, z, hinf, hz0, h2, hroom, hgrow⟩ := zerov_spec hr
      obtain ⟨i', hinf', z', hz0', hzs⟩ := zok_spec hzi
      rw [hinf] at hinf'; cases hinf'
      rw [hz0] at hz0'; cases hz0'
      obtain ⟨m, rfl⟩ : ∃ m : Nat, n = (m : Int) := ⟨n.toNat, by omega⟩
      simp only [Int.toNat_natCast] at hroom hgrow hbm hnm
      have hi : hasInfo P e = true := by simp [hasInfo, hinf]
      have hsz : sz P e = i.size := by simp [sz, hinf]
      have e1 := run_underlying (P := P) hu w
      have e3 := run_underlying (P := P) ht2 w
      have eS := run_sizeOf (P := P) hi w
      have e0 : ∀ w : World, (zeroValue e).run P w = .ok z w := fun w => by simp [zeroValue, typeInfo, hinf, hz0]
      generalize hnews : joinL (List.replicate m z.cells.toList) = news at hroom hgrow
      have hzc : Builtin.zeroCells z.cells m = news.toArray := by rw [zeroCells_join (i := i), hnews]
      have h1 : ∀ u ∈ news, u.oneCell' = true := by rw [← hnews]; exact joinL_one h2 m
      have hnl : news.length = m * sz P e := by rw [← hnews, joinL_length, List.map_replicate, sumL_replicate, Array.length_toList, hzs, hsz]
      have eI : ∀ w : World, (asInt (.int .i64 (m : Int))).run P w = .ok (m : Int) w := fun w => rfl
      have hwr : IntKind.i64.wrap (m : Int) = (m : Int) := IntWalk.i64_in _ (by omega)
      have hnn : ¬ ((m : Int) < 0) := by omega
      have hbt : ¬ ((m : Int) * (i.bytes : Int) > 281474976710656) := by
        rw [infoBytes hinf] at hbm
        have : ((m * i.bytes : Nat) : Int) = (m : Int) * (i.bytes : Int) := by push_cast; rfl
        omega
      by_cases hle : len + m ≤ cap
      · have hk := hroom hle
        unfold appIn at hk
        split at hk
        · refine ⟨_, w, ?_, Same.refl w, hk⟩
          by_cases h0 : m * sz P e = 0
          · simp [Builtin.append_, e1, e3, eS, eI, hwr, hnn, hbt, typeInfo, hinf, hle, h0]
          · simp [Builtin.append_, e1, e3, eS, eI, hwr, hnn, hbt, typeInfo, hinf, hle, h0, e0, hzc]
        · rename_i b o
          obtain ⟨hws, hK⟩ := hk
          have eC := run_storeCells_wrs (P := P) (b := b) (o := o + len * sz P e) (vs := news) (i := 0) (w := w) (by simpa using hws) h1
          simp only [Nat.add_zero] at eC
          refine ⟨_, { w with heap := setr w.heap b (o + len * sz P e) news }, ?_, ⟨rfl, rfl, rfl, Nat.le_refl _⟩, hK _ rfl⟩
          by_cases h0 : m * sz P e = 0
          · have : news = [] := List.eq_nil_of_length_eq_zero (by omega)
            subst this
            simp [Builtin.append_, e1, e3, eS, eI, hwr, hnn, hbt, typeInfo, hinf, hle, h0, add_eq, eC, setr]
          · simp [Builtin.append_, e1, e3, eS, eI, hwr, hnn, hbt, typeInfo, hinf, hle, h0, e0, hzc, add_eq, eC]
        · exact hk.elim
      · obtain ⟨⟨hb1, hb2⟩, olds, ho, hK⟩ := hgrow (by omega)
        rw [infoBytes hinf] at hb1 hb2
        have hfit : ¬ Builtin.nextslicecap (len + m) cap * i.bytes > 281474976710656 := by
          have := growslice_fits (need := len + m) (old := cap) (bytes := i.bytes) (by omega) hb1
          omega
        have hb0 : ¬ i.bytes = 0 := by omega
        have hlm : len + m ≤ (len + m) * i.bytes := by
          have : (len + m) * 1 ≤ (len + m) * i.bytes := Nat.mul_le_mul_left _ (by omega)
          omega
        have hnl2 : ¬ (9223372036854775807 : Int) < (len : Int) + (m : Int) := by omega
        have hcl := hK (grownCap w (len + m) cap e) (Builtin.zeroCells z.cells (grownCap w (len + m) cap e - (len + m))).toList w.heap.size
          (w.heap.push (.cells (olds ++ news ++ (Builtin.zeroCells z.cells (grownCap w (len + m) cap e - (len + m))).toList).toArray e)) (grownCap_ge w _ _ _)
          (by rw [Array.length_toList, size_zeroCells, hzs, hsz]) rfl rfl
        have hA : (olds ++ news ++ (Builtin.zeroCells z.cells (grownCap w (len + m) cap e - (len + m))).toList).toArray = olds.toArray ++ news.toArray ++ Builtin.zeroCells z.cells (grownCap w (len + m) cap e - (len + m)) := by
          apply Array.ext'; simp
        rw [hA] at hcl
        refine ⟨_, w.drew.alloc (.cells (olds.toArray ++ news.toArray ++ Builtin.zeroCells z.cells (grownCap w (len + m) cap e - (len + m))) e), ?_, ⟨rfl, rfl, rfl, Nat.le_succ _⟩, hcl⟩
        have eO := run_firstCells (P := P) (w := w.drew) (size := sz P e) (n := len) (a := a) (l := len) (c := cap) ho
        have cg : ∀ x y : Array Value, x = y → w.drew.alloc (.cells x e) = w.drew.alloc (.cells y e) := fun _ _ h => by rw [h]
        by_cases h0 : m * sz P e = 0
        · have : news = [] := List.eq_nil_of_length_eq_zero (by omega)
          subst this
          simp [Builtin.append_, e1, e3, eS, eI, hwr, hnn, hbt, hnl2, hle, h0, typeInfo, hinf, hb0, hfit, Question.forced, eO, zeroValue, hz0, newRow, grownCap]
        · simp [Builtin.append_, e1, e3, eS, eI, hwr, hnn, hbt, hnl2, hle, h0, typeInfo, hinf, hb0, hfit, Question.forced, eO, zeroValue, hz0, hzc, newRow, grownCap]
          exact cg _ _ (by apply Array.ext'; simp)
    · exact hr.elim
  · exact hr.elim
theorem anyOf_spec {t : TypeId} {K : Value → Prop} (h : anyOf P t K) : ∃ v, K v := by
  unfold anyOf at h
  split at h
  · obtain ⟨n, h⟩ := h; exact ⟨_, h⟩
  · obtain ⟨n, h⟩ := h; exact ⟨_, h⟩
  · obtain ⟨n, h⟩ := h; exact ⟨_, h⟩
  · obtain ⟨n, l, m, h⟩ := h; exact ⟨_, h⟩
  · obtain ⟨n, h⟩ := h; exact ⟨_, h⟩
  · obtain ⟨n, h⟩ := h; exact ⟨_, h⟩
  · obtain ⟨n, h⟩ := h; exact ⟨_, h⟩
  · exact h
theorem anyOfs_spec : ∀ {ts : List TypeId} {K : List Value → Prop}, anyOfs P ts K → ∃ vs, K vs
  | [], K, h => ⟨[], h⟩
  | t :: r, K, h => by
    obtain ⟨v, h1⟩ := anyOf_spec h
    obtain ⟨vs, h2⟩ := anyOfs_spec h1
    exact ⟨_, h2⟩
theorem typ_spec {t : TypeId} {v : Value} {K : Value → Prop} (h : typ P t v K) : K v := by
  unfold typ at h
  split at h
  · split at h
    · exact h
    · obtain ⟨vs, h1, h2⟩ := anyOfs_spec h; rw [h1]; exact h2
  · obtain ⟨u, h1, h2⟩ := anyOf_spec h; rw [h1]; exact h2
theorem cut0 (a : Value) (xs : Array Value) : (#[a] ++ xs)[0]? = some a := by
  rw [Array.getElem?_append_left (by simp)]; rfl
theorem cut1 (a : Value) (xs : Array Value) : (#[a] ++ xs).extract 1 (#[a] ++ xs).size = xs := by
  rw [Array.extract_append]
  simp
theorem mth_run {t : TypeId} {x : Value} {name : String} {f : FuncId} {w : World} (hm : mth P t name = some f) : (Go.method (P.types.size + Made.depth) t x name).run P w = .ok (f, x) w := by
  unfold mth at hm
  split at hm
  · rename_i i hi
    split at hm
    · rename_i m hf
      split at hm
      · rename_i f' e hp hfn hu
        cases hm
        obtain ⟨n, hn⟩ : ∃ n, P.types.size + Made.depth = n + 1 := ⟨P.types.size + 99, by simp [Made.depth]⟩
        rw [hn]
        simp [method, typeInfo, hi, hf, hp, hfn, follow, receiverAt, run_underlying hu, Place.get]
      · cases hm
    · cases hm
  · cases hm
theorem mobj_run {r : Nat} {es : List MapEntry} {c : Nat} (h : mobj w.heap (some r) = some (es, c)) : w.heap[r]? = some (.map es.toArray c) ∧ (getObj r).run P w = .ok (.map es.toArray c) w := by
  unfold mobj at h
  dsimp only at h
  split at h
  · rename_i es' c' hb
    cases h
    exact ⟨by simpa using hb, by simp [getObj, Sem.run, hb]⟩
  · cases h
theorem run_setObj_map {r : Nat} {es : Array MapEntry} {c : Nat} {o : Obj} (h : w.heap[r]? = some (.map es c)) : (setObj r o).run P w = .ok () { w with heap := w.heap.setIfInBounds r o } := by
  simp [setObj, Sem.run, h]
theorem Same.heap (w : World) (h : Heap) : Same w { w with heap := h } := ⟨rfl, rfl, rfl, Nat.le_refl _⟩
theorem checkInt {key : TypeId} {ki : IntKind} {b : Bool} {k : Value} (hk : P.underlying key = some (.int ki)) : (Instr.checkKey b 10000 key k).run P w = .ok () w := by
  show (Instr.checkKey b (9999 + 1) key k).run P w = _
  unfold Instr.checkKey
  simp [run_underlying hk]
theorem findKey_run {key : TypeId} {ki : IntKind} {k : Value} {es : List MapEntry} {f : Option (Nat × Value)} (hk : P.underlying key = some (.int ki)) (hf : Instr.findNow (.int ki) k es 0 = some f) : (Instr.findKey key k es).run P w = .ok f w := by
  simp [Instr.findKey, run_underlying hk, hf]
theorem zeroOf_run {t : TypeId} {z : Value} (h : zeroOf P t = some z) : (zeroValue t).run P w = .ok z w := by
  unfold zeroOf at h
  split at h
  · rename_i i hi; simp [zeroValue, typeInfo, hi, h]
  · cases h
theorem lkr_run {t : TypeId} {x k v : Value} {b ok : Bool} (h : lkr P t x k w.heap = some (v, b)) : (Instr.lookup t x k ok).run P w = .ok (if ok then .tuple #[v, .bool b] else v) w := by
  unfold lkr at h
  split at h
  · rename_i key elem m hu
    split at h
    · rename_i ki es c hk hm
      split at h
      · rename_i i v' hf
        cases h
        have e2 := findKey_run (P := P) (w := w) hk hf
        cases m with
        | none => cases hm; simp [Instr.findNow] at hf
        | some r =>
          have e3 := (mobj_run (P := P) hm).2
          have e1 : (Instr.checkKey es.isEmpty 10000 key k).run P w = .ok () w := checkInt hk
          simp [Instr.lookup, run_underlying hu, e3, e1, e2]
      · rename_i hf
        split at h
        · rename_i z hz
          cases h
          have e2 := findKey_run (P := P) (w := w) hk hf
          have e4 := zeroOf_run (P := P) (w := w) hz
          cases m with
          | none =>
            cases hm
            have e1 : (Instr.checkKey true 10000 key k).run P w = .ok () w := checkInt hk
            simp [Instr.lookup, run_underlying hu, e1, e2, e4]
          | some r =>
            have e3 := (mobj_run (P := P) hm).2
            have e1 : (Instr.checkKey es.isEmpty 10000 key k).run P w = .ok () w := checkInt hk
            simp [Instr.lookup, run_underlying hu, e3, e1, e2, e4]
        · cases h
      · cases h
    · cases h
  · cases h
theorem lkv_sound {t : TypeId} {x k : Value} {ok : Bool} {h : Heap} {K : Value → Prop} (hr : lkv P t x k ok h K) (hw : w.heap = h) : ∃ v, (Instr.lookup t x k ok).run P w = .ok v w ∧ K v := by
  subst hw
  unfold lkv at hr
  split at hr
  · obtain ⟨v, b, h1, h2⟩ := anyOf_spec hr
    refine ⟨_, lkr_run h1, ?_⟩
    cases ok with
    | true => exact h2
    | false => exact h2
  · exact hr.elim
theorem found {ki : IntKind} {k : Value} : ∀ {es : List MapEntry} {j i : Nat} {v : Value}, Instr.findNow (.int ki) k es j = some (some (i, v)) → ∃ e, j ≤ i ∧ es[i - j]? = some e ∧ e.val = v ∧ Instr.sameNow (.int ki) k e.key = some true
  | [], j, i, v, h => by simp [Instr.findNow] at h
  | e :: es, j, i, v, h => by
    unfold Instr.findNow at h
    split at h
    · rename_i hs
      cases h
      exact ⟨e, Nat.le_refl _, by simp, rfl, hs⟩
    · obtain ⟨e', h1, h2, h3, h4⟩ := found h
      refine ⟨e', by omega, ?_, h3, h4⟩
      rw [show i - j = (i - (j + 1)) + 1 by omega]
      simpa using h2
    · cases h
theorem sameNow_bits {ki : IntKind} {k l : Value} (h : Instr.sameNow (.int ki) k l = some true) : Instr.sameBits 10000 l k = true := by
  unfold Instr.sameNow at h
  split at h
  · split at h
    · rename_i h1 h2
      subst h2
      simp at h
      subst h
      unfold Instr.sameBits
      simp
    · cases h
  · exact absurd (by assumption : TypeDesc.int ki = TypeDesc.string) (by simp)
  · exact absurd (by assumption : TypeDesc.int ki = TypeDesc.bool) (by simp)
  · cases h
theorem mupv_sound {t : TypeId} {m k v : Value} {h : Heap} {K : Heap → Prop} (hr : mupv P t m k v h K) (hw : w.heap = h) : ∃ w', (Instr.mapUpdate t m k v).run P w = .ok () w' ∧ Same w w' ∧ K w'.heap := by
  subst hw
  unfold mupv at hr
  split at hr
  · rename_i key elem r hu
    split at hr
    · rename_i ki hk
      obtain ⟨es, c, f, h1, h2, h3⟩ := hr
      obtain ⟨h4, h5⟩ := mobj_run (P := P) h1
      refine ⟨{ w with heap := w.heap.setIfInBounds r (.map (mups es c k v f).1.toArray (mups es c k v f).2) }, ?_, Same.heap _ _, h3 _ rfl⟩
      cases f with
      | none =>
        simp [Instr.mapUpdate, run_underlying hu, h5, checkInt (P := P) hk, findKey_run (P := P) hk h2, run_setObj_map (P := P) h4, mups]
      | some p =>
        obtain ⟨i, v0⟩ := p
        obtain ⟨e, e1, e2, e3, e4⟩ := found h2
        rw [Nat.sub_zero] at e2
        have eb := sameNow_bits e4
        have ek : (Instr.keyThatStays e.key k).run P w = .ok k w := by simp [Instr.keyThatStays, eb]
        have hi : es.toArray[i]? = some e := by simpa using e2
        simp [Instr.mapUpdate, run_underlying hu, h5, checkInt (P := P) hk, findKey_run (P := P) hk h2, e2, ek, run_setObj_map (P := P) h4, mups]
    · exact hr.elim
  · exact hr.elim
theorem mdelv_sound {t : TypeId} {ts : Array TypeId} {r : List TypeId} {ty : TypeId} {m k : Value} {h : Heap} {K : Heap → Prop} (ht : ts.toList = t :: r) (hr : mdelv P t m k h K) (hw : w.heap = h) : ∃ w', (Builtin.delete_ ts ty #[m, k]).run P w = .ok (.tuple #[]) w' ∧ Same w w' ∧ K w'.heap := by
  subst hw
  have h0 : ts[0]? = some t := by rw [← Array.getElem?_toList, ht]; rfl
  unfold mdelv at hr
  split at hr
  · rename_i key elem r hu
    split at hr
    · rename_i ki hk
      obtain ⟨es, c, f, h1, h2, h3⟩ := hr
      obtain ⟨h4, h5⟩ := mobj_run (P := P) h1
      refine ⟨{ w with heap := w.heap.setIfInBounds r (.map (mdels es f).toArray c) }, ?_, Same.heap _ _, h3 _ rfl⟩
      cases f with
      | none =>
        simp [Builtin.delete_, h0, run_underlying hu, h5, checkInt (P := P) hk, findKey_run (P := P) hk h2, run_setObj_map (P := P) h4, mdels]
      | some p =>
        obtain ⟨i, v0⟩ := p
        simp [Builtin.delete_, h0, run_underlying hu, h5, checkInt (P := P) hk, findKey_run (P := P) hk h2, run_setObj_map (P := P) h4, mdels]
    · exact hr.elim
  · rename_i key elem hu
    split at hr
    · rename_i ki hk
      exact ⟨w, by simp [Builtin.delete_, h0, run_underlying hu, checkInt (P := P) hk], Same.refl w, hr⟩
    · exact hr.elim
  · exact hr.elim
theorem rngv_sound {t : TypeId} {x : Value} {h : Heap} {K : Value → Heap → Prop} (hr : rngv P t x h fun b h1 => K (.pointer (some ⟨b, 0, none⟩)) h1) (hw : w.heap = h) : ∃ v w', (Instr.range t x).run P w = .ok v w' ∧ Same w w' ∧ K v w'.heap := by
  subst hw
  unfold rngv at hr
  split at hr
  · rename_i key elem m hu
    obtain ⟨es, c, h1, h2⟩ := hr
    refine ⟨_, w.alloc (.mapIter m c #[] c), ?_, Same.alloc _ _, h2 _ _ rfl rfl⟩
    cases m with
    | none => cases h1; simp [Instr.range, run_underlying hu]
    | some r => simp [Instr.range, run_underlying hu, (mobj_run (P := P) h1).2]
  · exact hr.elim
theorem nextTest (seen : Array Nat) (es : Array MapEntry) (since c0 : Nat) (hold : ∀ x ∈ es.toList, x.born < since) (hsc : since ≤ c0) :
    (!seen.isEmpty && !es.isEmpty && es.all (fun x => decide (x.born ≥ c0))) = false := by
  obtain ⟨l⟩ := es
  cases l with
  | nil => simp
  | cons a r =>
    have := hold a (by simp)
    have h1 : decide (a.born ≥ c0) = false := decide_eq_false (by omega)
    simp [h1]
theorem next_run (ty : TypeId) {b bm since c0 : Nat} {seen : Array Nat} {es : Array MapEntry} {clock : Nat} (hi : w.heap[b]? = some (.mapIter (some bm) since seen c0)) (hb : w.heap[bm]? = some (.map es clock)) (hold : ∀ x ∈ es.toList, x.born < since) (hsc : since ≤ c0) :
    ((∀ e ∈ es.toList, e.born ∈ seen.toList) ∧ (Instr.next (.pointer (some ⟨b, 0, none⟩)) false ty).run P w = .ok (.tuple #[.bool false]) w) ∨
    ∃ e ∈ es.toList, e.born ∉ seen.toList ∧ ∃ w' : World, Same w w' ∧ w'.heap = w.heap.setIfInBounds b (.mapIter (some bm) since (seen.push e.born) clock) ∧ (Instr.next (.pointer (some ⟨b, 0, none⟩)) false ty).run P w = .ok (.tuple #[.bool true, e.key, e.val]) w' := by
  simp only [Instr.next, getObj, Sem.run_bind, Sem.run, hi, hb, Result.andThen, nextTest seen es since c0 hold hsc, Bool.false_eq_true, if_false]
  have hmem : ∀ x ∈ (Array.filter (fun e => !seen.contains e.born) es).toList, x.born < since ∧ x ∈ es.toList ∧ x.born ∉ seen.toList := fun x hx => by
    simp at hx
    exact ⟨hold x (by simpa using hx.1), by simpa using hx.1, by simpa using hx.2⟩
  have hall : ∀ x ∈ es.toList, x.born ∉ seen.toList → x ∈ (Array.filter (fun e => !seen.contains e.born) es).toList := fun x hx hn => by
    simp; exact ⟨by simpa using hx, by simpa using hn⟩
  generalize Array.filter (fun e => !seen.contains e.born) es = L at hmem hall ⊢
  have e1 : L.filter (fun x => decide (x.born < since)) = L := Array.filter_eq_self.2 (fun x hx => by simpa using (hmem x (by simpa using hx)).1)
  have e2 : L.filter (fun x => decide (x.born ≥ since)) = #[] := by
    rw [Array.filter_eq_empty_iff]
    intro x hx
    have := (hmem x (by simpa using hx)).1
    simp
    omega
  simp only [e1, e2, Array.append_empty]
  by_cases h0 : L.size = 0
  · left
    have hL : L = #[] := Array.eq_empty_of_size_eq_zero h0
    subst hL
    refine ⟨fun e he => Classical.byContradiction fun hn => ?_, ?_⟩
    · have := hall e he hn; simp at this
    · simp [choose, Sem.run, Question.forced]
  · right
    have hne : L.isEmpty = false := by simp [Array.isEmpty, h0]
    simp only [hne, Bool.false_eq_true, if_false, Array.empty_append]
    have key : ∀ n, n < L.size → ∃ e ∈ es.toList, e.born ∉ seen.toList ∧ L[n]? = some e := fun n hn => by
      have hm := hmem L[n] (by simp)
      exact ⟨L[n], hm.2.1, hm.2.2, by simp [hn]⟩
    by_cases hf : L.size ≤ 1
    · obtain ⟨e, h1, h2, h3⟩ := key 0 (by omega)
      refine ⟨e, h1, h2, { w with heap := w.heap.setIfInBounds b (.mapIter (some bm) since (seen.push e.born) clock) }, Same.heap _ _, rfl, ?_⟩
      have hq : (Question.mapNext L.size).forced = true := by simp [Question.forced, hf]
      simp [choose, Sem.run, hq, h3, setObj, hi]
    · obtain ⟨e, h1, h2, h3⟩ := key (w.tape w.drawn (.mapNext L.size) % L.size) (Nat.mod_lt _ (by omega))
      refine ⟨e, h1, h2, { w with heap := w.heap.setIfInBounds b (.mapIter (some bm) since (seen.push e.born) clock), drawn := w.drawn + 1 }, ⟨rfl, rfl, rfl, Nat.le_succ _⟩, rfl, ?_⟩
      have hq : (Question.mapNext L.size).forced = false := by simp [Question.forced]; omega
      have hc : (Question.mapNext L.size).cut (w.tape w.drawn (.mapNext L.size)) = w.tape w.drawn (.mapNext L.size) % L.size := by simp [Question.cut]
      have hi' : w.drew.heap[b]? = some (.mapIter (some bm) since seen c0) := hi
      simp [choose, Sem.run, hq, hc, h3, setObj, hi']
      exact ⟨rfl, rfl, rfl⟩
theorem nxv_sound {it : Value} {ty : TypeId} {h : Heap} {K : Value → Heap → Prop} (hr : onPtr it fun b o => o = 0 ∧ nxv b h (K (.tuple #[.bool false]) h) fun e h1 => K (.tuple #[.bool true, e.key, e.val]) h1) (hw : w.heap = h) :
    ∃ v w', (Instr.next it false ty).run P w = .ok v w' ∧ Same w w' ∧ K v w'.heap := by
  subst hw
  obtain ⟨b, o, rfl, rfl, m, since, seen, last, es, c, h1, h2, h3, h4, h5, h6⟩ := onPtr_spec hr
  cases m with
  | none =>
    cases h2
    refine ⟨_, w, ?_, Same.refl w, h5 fun e he => (by cases he)⟩
    simp [Instr.next, getObj, Sem.run, h1]
  | some r =>
    obtain ⟨h7, _⟩ := mobj_run (P := P) h2
    rcases next_run (P := P) ty h1 h7 (by simpa using h3) h4 with ⟨q1, q2⟩ | ⟨e, q1, q2, w', q3, q4, q5⟩
    · exact ⟨_, w, q2, Same.refl w, h5 (by simpa using q1)⟩
    · refine ⟨_, w', q5, q3, ?_⟩
      exact h6 e (by simpa using q1) q2 _ q4
theorem pushes_bytes {f : UInt8 → ByteArray → Sem (ForInStep ByteArray)} (hf : ∀ b s, f b s = pure (.yield (s.push b))) : ∀ (xs : List UInt8) (s : ByteArray), forIn xs s f = (pure ⟨s.data ++ xs.toArray⟩ : Sem ByteArray)
  | [], s => by simp
  | x :: xs, s => by
    rw [List.forIn_cons, hf]
    simp only [pure_bind]
    rw [pushes_bytes hf xs]
    congr 1
    simp [ByteArray.push]
theorem run_load_src {w : World} {a : Addr} {n : Nat} {cs : List Value} (hs : src w.heap (some a) n cs) : (loadCells a n).run P w = .ok cs.toArray w := by
  unfold src at hs
  split at hs
  · rename_i he; cases he
  · rename_i he; cases he; exact run_loadCells_of_row hs rfl
  · rename_i he
    cases he
    obtain ⟨rfl, rfl⟩ := hs
    exact run_loadCells_list w _ [] (by simp)
theorem push_modify (h : Heap) (o : Obj) (f : Obj → Obj) : (h.push o).modify h.size f = h.push (f o) := by
  apply Array.ext
  · simp
  · intro i h1 h2
    rw [Array.getElem_modify]
    by_cases hi : h.size = i
    · subst hi; simp
    · rw [if_neg hi]
      simp only [Array.size_push] at h2
      rw [Array.getElem_push_lt (by omega), Array.getElem_push_lt (by omega)]
def frz (n : Nat) (o : Obj) : Obj := match o with
  | .cells c elem (lo, hi) => .cells c elem (if lo == hi then (n, n + 1) else (min lo n, max hi (n + 1)))
  | o => o
theorem freeze_drew {w : World} {O : Obj} {n : Nat} : (w.drew.alloc O).freeze ⟨w.heap.size, n, none⟩ 1 = { w with heap := (w.heap.push O).modify w.heap.size (frz n), drawn := w.drawn + 1 } := by
  unfold World.freeze
  rw [if_neg (by decide)]
  rfl
theorem cvv_sound {s d : TypeId} {v : Value} {h : Heap} {K : Value → Heap → Prop} (hr : cvv P s d v h K) (hw : w.heap = h) : ∃ v' w', (convert s d v).run P w = .ok v' w' ∧ Same w w' ∧ K v' w'.heap := by
  subst hw
  unfold cvv at hr
  split at hr
  · rename_i e x hs hd
    split at hr
    · rename_i he
      have e1 := run_underlying (P := P) hs w
      have e2 := run_underlying (P := P) hd w
      have e3 := run_underlying (P := P) he w
      generalize hn : (Question.appendCap x.size 0 e).cut (w.tape w.drawn (.appendCap x.size 0 e)) = n at *
      have hc : x.size ≤ n := by rw [← hn]; simp [Question.cut]
      refine ⟨.slice (some ⟨w.heap.size, 0, none⟩) x.size n, { w with heap := w.heap.push (.cells (x.data.toList.map byteV ++ List.replicate (n - x.size) (Value.int .u8 0)).toArray e (n, n + 1)), drawn := w.drawn + 1 }, ?_, ⟨rfl, rfl, rfl, Nat.le_succ _⟩, hr n (List.replicate (n - x.size) (Value.int .u8 0)) _ _ hc (by simp) rfl rfl⟩
      have hsz : x.data.size = x.size := rfl
      have hq : (Question.appendCap x.size 0 e).forced = false := rfl
      simp [convert, e1, e2, e3, Conv.stringToBytes, choose, Sem.run, hq, hn, newRow, markStringish, shape, World.shape?, freeze, World.freeze, newObj]
      have hO : ∀ O : Obj, (w.drew.alloc O).heap = w.heap.push O := fun _ => rfl
      simp only [hO, Array.getElem_push_eq, Array.size_append, Array.size_map, Array.size_replicate, hsz, Nat.add_sub_cancel' hc, Sem.run, freeze_drew, push_modify, frz, Result.andThen, beq_self_eq_true, if_true]
      congr 3
      simp [byteV]
    · exact hr.elim
  · rename_i e a len c hs hd
    split at hr
    · rename_i he
      obtain ⟨xs, h1, hk⟩ := hr
      have e1 := run_underlying (P := P) hs w
      have e2 := run_underlying (P := P) hd w
      have e3 := run_underlying (P := P) he w
      refine ⟨_, w, ?_, Same.refl w, hk⟩
      cases a with
      | none =>
        have : xs = [] := by simpa [src] using h1
        subst this
        simp [convert, e1, e2, e3, Conv.bytesToString]
        rfl
      | some ad =>
        have h2 := run_load_src (P := P) h1
        simp [convert, e1, e2, e3, Conv.bytesToString, h2]
        rw [pushes_bytes (fun b s => by simp [byteV])]
        simp
    · exact hr.elim
  · exact hr.elim
theorem entv_sound {it : Value} {h : Heap} {K : Value → Heap → Prop} (hr : onPtr it fun b o => o = 0 ∧ entv b h fun k v => K (.tuple #[k, v]) h) (hw : w.heap = h) : ∃ v, (Instr.entry it).run P w = .ok v w ∧ K v h := by
  obtain ⟨b, o, rfl, rfl, r, since, seen, stamp, es, c, e, h1, h2, h3, h4, h5⟩ := onPtr_spec hr
  subst hw
  obtain ⟨h6, h7⟩ := mobj_run (P := P) h3
  refine ⟨_, ?_, h5⟩
  have h8 : es.toArray.find? (fun x => x.born == stamp) = some e := by simpa using h4
  have h9 : (getObj b).run P w = .ok (.mapIter (some r) since seen c) w := by simp [getObj, Sem.run, h1]
  simp [Instr.entry, h9, h2, h7, h4]
theorem ef_sound {x : Md} {o : Oper} {a : Act} {h : Heap} {K : Value → Heap → Prop} {next : Act → World → Prop} {Q : Exit → Act → World → Prop}
    (hr : ef P x a.eval o.op o.type h K) (hw : w.heap = h) (hn : ∀ v w', Same w w' → K v w'.heap → next (a.put o.dst v) w') : o.wp P a w next Q := by
  have val : ∀ {v : Value} {w' : World}, (execOp a.eval o).run P w = .ok (.value v) w' → Same w w' → K v w'.heap → o.wp P a w next Q := by
    intro v w' he hs hk
    unfold Oper.wp
    rw [he]
    exact hn v w' hs hk
  have skp : ∀ {w' : World}, (execOp a.eval o).run P w = .ok .skip w' → Same w w' → K undef w'.heap → o.wp P a w next Q := by
    intro w' he hs hk
    unfold Oper.wp
    rw [he]
    exact hn undef w' hs hk
  obtain ⟨dst, op, ty, pos, after, guard⟩ := o
  simp only at hr
  unfold ef at hr
  split at hr
  · rename_i e
    obtain ⟨i, z, hi, hz, hk⟩ := zerov_spec hr
    obtain ⟨w', h1, h2, h3⟩ := alc_sound (P := P) (T := e) (v := z) hk hw
    refine val (v := .pointer (some ⟨w.heap.size, 0, none⟩)) (w' := w') ?_ h2 h3
    have e0 : (zeroValue e).run P w = .ok z w := by simp [zeroValue, typeInfo, hi, hz]
    have : (Instr.alloc e true (.tuple #[])).run P w = .ok (.pointer (some ⟨w.heap.size, 0, none⟩)) w' := by
      simp only [Instr.box] at h1
      simp only [Instr.alloc, Sem.run_bind, e0, Result.andThen_ok]
      exact h1
    simp [execOp, this]
  · rename_i e b
    obtain ⟨w', h1, h2, h3⟩ := alc_sound (P := P) (T := e) (v := a.eval b) hr hw
    exact val (v := .pointer (some ⟨w.heap.size, 0, none⟩)) (w' := w') (by simp [execOp, h1]) h2 h3
  · rename_i t p v
    obtain ⟨b, o, hp, hk⟩ := onPtr_spec hr
    obtain ⟨w', h1, h2, h3⟩ := stv_sound (P := P) hk hw
    exact skp (w' := w') (by simp [execOp, hp, h1]) h2 h3
  · rename_i f args ts
    unfold callv at hr
    split at hr
    · rename_i g first captured hf
      split at hr
      · rename_i hb
        unfold bodied at hb
        split at hb
        · rename_i fn hfn
          simp only [Bool.and_eq_true, Bool.not_eq_true', beq_eq_false_iff_ne] at hb
          have hc := hr w hw
          have he : (execOp a.eval ⟨dst, .call ⟨.value f, args, ts⟩, ty, pos, after, guard⟩).run P w = .ok (.enter g (first.toList ++ (args.toList.map a.eval ++ captured.toList)).toArray) w := by
            have hbn : ¬ fn.body = none := fun h => by rw [h] at hb; exact absurd hb.2 (by simp)
            simp [execOp, resolve, hf, Deferred.ofValue, invoke, callFunc, hfn, hb.1, hbn]
          unfold Oper.wp
          rw [he]
          simp only [Oper.upon_enter]
          refine hc.mono fun e w' ⟨v, hv, hk, hs⟩ => ?_
          subst hv
          exact hn v w' hs (typ_spec hk)
        · cases hb
      · exact hr.elim
    · exact hr.elim
  · rename_i r name args ts
    unfold ivk at hr
    split at hr
    · rename_i t x hv
      obtain ⟨f, hm, hb, hr⟩ := hr
      unfold bodied at hb
      split at hb
      · rename_i fn hfn
        simp only [Bool.and_eq_true, Bool.not_eq_true', beq_eq_false_iff_ne] at hb
        have hc := hr w hw
        have hme : (Go.method (P.types.size + Made.depth) t x name).run P w = .ok (f, x) w := mth_run hm
        have he : (execOp a.eval ⟨dst, .call ⟨.invoke r name, args, ts⟩, ty, pos, after, guard⟩).run P w = .ok (.enter f (x :: args.toList.map a.eval).toArray) w := by
          have hbn : ¬ fn.body = none := fun h => by rw [h] at hb; exact absurd hb.2 (by simp)
          have e1 := cut0 (.iface t x) (args.map a.eval)
          have e2 := cut1 (.iface t x) (args.map a.eval)
          have e3 : #[x] ++ args.map a.eval = (x :: args.toList.map a.eval).toArray := by simp
          have e4 : (callMethod (.iface t x) name (args.map a.eval)).run P w = .ok (.enter f (x :: args.toList.map a.eval).toArray) w := by
            simp [callMethod, hme, callFunc, hfn, hb.1, hbn]
          simp only [execOp, resolve, hv, Sem.run_bind, Sem.run_pure, Result.andThen_ok, invoke, e1, e2]
          exact e4
        unfold Oper.wp
        rw [he]
        simp only [Oper.upon_enter]
        refine hc.mono fun e w' ⟨v, hv, hk, hs⟩ => ?_
        subst hv
        exact hn v w' hs (typ_spec hk)
      · cases hb
    · exact hr.elim
  · rename_i args ts
    split at hr
    · rename_i s y T T2 ha ht
      split at hr
      · rename_i e2 hu2
        obtain ⟨v, w', h1, h2, h3⟩ := appv_sound (P := P) hu2 hr hw ty
        refine val (v := v) (w' := w') ?_ h2 h3
        have ha' : args.map a.eval = #[s, y] := by apply Array.ext'; simpa using ha
        have ht' : ts = #[T, T2] := by apply Array.ext'; simpa using ht
        subst ht'
        simp [execOp, resolve, invoke, builtin, ha', h1]
      · rename_i k2 hu2
        obtain ⟨v, w', h1, h2, h3⟩ := apmv_sound (P := P) hu2 hr hw ty
        refine val (v := v) (w' := w') ?_ h2 h3
        have ha' : args.map a.eval = #[s, y] := by apply Array.ext'; simpa using ha
        have ht' : ts = #[T, T2] := by apply Array.ext'; simpa using ht
        subst ht'
        simp [execOp, resolve, invoke, builtin, ha', h1]
      · exact hr.elim
    · exact hr.elim
  · rename_i t len parts
    obtain ⟨v, w', h1, h2, h3⟩ := bslv_sound (P := P) hr hw
    have e : (parts.toList.map fun (i, x) => (i, a.eval x)).toArray = parts.map fun (i, x) => (i, a.eval x) := by apply Array.ext'; simp
    rw [e] at h1
    exact val (v := v) (w' := w') (by simp [execOp, h1]) h2 h3
  · rename_i t l c
    obtain ⟨v, w', h1, h2, h3⟩ := mslv_sound (P := P) hr hw
    exact val (v := v) (w' := w') (by simp [execOp, h1]) h2 h3
  · rename_i args ts
    split at hr
    · rename_i d s T T2 ha ht
      obtain ⟨v, w', h1, h2, h3⟩ := copyv_sound (P := P) (T2 := T2) hr hw ty
      refine val (v := v) (w' := w') ?_ h2 h3
      have ha' : args.map a.eval = #[d, s] := by apply Array.ext'; simpa using ha
      have ht' : ts = #[T, T2] := by apply Array.ext'; simpa using ht
      subst ht'
      simp [execOp, resolve, invoke, builtin, ha', h1]
    · exact hr.elim
  · rename_i s d x
    obtain ⟨v, w', h1, h2, h3⟩ := cvv_sound (P := P) hr hw
    exact val (v := v) (w' := w') (by simp [execOp, h1]) h2 h3
  · rename_i t
    have hk := hr w.heap.size _ (by rw [hw]) rfl
    refine val (v := .map (some w.heap.size)) (w' := w.alloc (.map #[] 0)) (by simp [execOp, Instr.makeMap]) (Same.alloc _ _) ?_
    subst hw; exact hk
  · rename_i t r
    split at hr
    · rename_i k n hrr
      split at hr
      · rename_i key elem hu
        have hk := hr w.heap.size _ (by rw [hw]) rfl
        refine val (v := .map (some w.heap.size)) (w' := w.alloc (.map #[] 0)) (by simp [execOp, Instr.makeMap, run_underlying hu, hrr, asInt, asIntOf]) (Same.alloc _ _) ?_
        subst hw; exact hk
      · exact hr.elim
    · exact hr.elim
  · rename_i t m i ok
    obtain ⟨v, h1, h2⟩ := lkv_sound (P := P) hr hw
    exact val (v := v) (w' := w) (by simp [execOp, h1]) (Same.refl w) (by rw [hw]; exact h2)
  · rename_i t m k v
    obtain ⟨w', h1, h2, h3⟩ := mupv_sound (P := P) hr hw
    exact skp (w' := w') (by simp [execOp, h1]) h2 h3
  · rename_i args ts
    split at hr
    · rename_i m k t r ha ht
      obtain ⟨w', h1, h2, h3⟩ := mdelv_sound (P := P) (ts := ts) (ty := ty) (r := r) ht hr hw
      have ha' : args.map a.eval = #[m, k] := by apply Array.ext'; simpa using ha
      refine val (v := .tuple #[]) (w' := w') ?_ h2 h3
      simp [execOp, resolve, invoke, builtin, ha', h1]
    · exact hr.elim
  · rename_i t m
    obtain ⟨v, w', h1, h2, h3⟩ := rngv_sound (P := P) hr hw
    exact val (v := v) (w' := w') (by simp [execOp, h1]) h2 h3
  · rename_i it str
    split at hr
    · obtain ⟨v, w', h1, h2, h3⟩ := nxv_sound (P := P) (ty := ty) hr hw
      exact val (v := v) (w' := w') (by simp [execOp, h1]) h2 h3
    · exact hr.elim
  · rename_i it
    obtain ⟨v, h1, h2⟩ := entv_sound (P := P) hr hw
    exact val (v := v) (w' := w) (by simp [execOp, h1]) (Same.refl w) (by rw [hw]; exact h2)
  · exact hr.elim
  · rename_i args ts
    split at hr
    · rename_i s T ha ht
      obtain ⟨w', h1, h2, h3⟩ := clrv_sound (P := P) hr hw ty
      refine val (v := undef) (w' := w') ?_ h2 h3
      have ha' : args.map a.eval = #[s] := by apply Array.ext'; simpa using ha
      have ht' : ts = #[T] := by apply Array.ext'; simpa using ht
      subst ht'
      simp [execOp, resolve, invoke, builtin, ha', h1, undef]
    · exact hr.elim
  · obtain ⟨v, w', h1, h2, h3⟩ := hr w ⟨dst, op, ty, pos, after, guard⟩ rfl rfl hw
    rcases h1 with h1 | ⟨h1, rfl⟩
    · exact val h1 h2 h3
    · exact skp h1 h2 h3
end Go.Vc
