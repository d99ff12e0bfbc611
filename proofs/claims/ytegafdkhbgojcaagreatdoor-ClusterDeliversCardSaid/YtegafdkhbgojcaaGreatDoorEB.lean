/- What the machine says of each operation is so. No condition. -/
import Derived.Test.YtegafdkhbgojcaaGreatDoorEA
set_option linter.unusedVariables false
set_option linter.unusedSimpArgs false
set_option linter.constructorNameAsVariable false
namespace Go.Proofs.YtegafdkhbgojcaaGreatDoor.Ex
open Go
section
variable {X : Nat → Value} {P : Program} {W : World} {Z : Nat → Option Obj} {ρ : Rho} {id : Nat} {w : World} {h : T AB}
variable {x y : AV} {vx vy : Value}
theorem SlR.le {B base tot o l sz : Nat} {cap : Option Nat} {a : Addr} {c : Nat} (H : SlR B base tot o l sz cap a c) : l ≤ c := by
  cases cap with
  | none => exact H.2.1
  | some c0 => exact H.2.2.2
theorem SlR.addr {B base tot o l sz : Nat} {cap : Option Nat} {a : Addr} {c : Nat} (H : SlR B base tot o l sz cap a c) (hl : 0 < l) : a = ⟨B, base + o, none⟩ := by
  cases cap with
  | none => exact (H.2.2 (by have := H.2.1; omega)).1
  | some c0 => exact H.2.2.1
theorem ofB_ok (H : HR X W Z ρ h.get w) {s d e : TypeId} (hs : P.underlying s = some (.slice e)) (he : P.underlying e = some (.int .u8)) (hd : P.underlying d = some .string) (hx : VR X ρ x vx) : OpR X P W Z ρ id w (do pure (.value (← convert s d vx))) (ofBA h x) := by
  cases x with
  | sn =>
    cases hx
    exact val_ok (v := .string .empty) (by simp [convert, run_underlying hs, run_underlying hd, run_underlying he, Conv.bytesToString]) ⟨[], rfl, rfl, rfl⟩
  | sl b o l sz cap =>
    obtain ⟨B, base, tot, a, c, h1, rfl, h2⟩ := hx
    refine cellsAt_ok fun vs hb => cutK_ok fun hn => ?_
    obtain ⟨cs, E, fz, C⟩ := H.cells hb h1
    obtain ⟨r, h3, h4, h5, _⟩ := C.cut hn
    refine byteK_ok h4 fun bs hbs => ?_
    subst hbs
    have h3' : bs.length = l := by simpa using h3
    subst h3'
    refine val_ok (v := .string (S bs)) ?_ ⟨bs, rfl, rfl, rfl⟩
    refine run_convert_bytes_back w s d e a c bs hs he hd fun j hj => ?_
    rw [h2.addr (by omega)]
    exact h5 j _ (by rw [Bs, List.getElem?_map, List.getElem?_eq_getElem hj]; rfl)
  | _ => exact trivial
theorem run_asIntOf (k : IntKind) (n : Int) (w : World) : (asIntOf (.int k n)).run P w = .ok (k, n) w := rfl
theorem ia_ok {t e : TypeId} {m : Nat} (ht : P.underlying t = some (.slice e)) (hz : sizeT P e = m + 1) (hx : VR X ρ x vx) (hy : VR X ρ y vy) : OpR X P W Z ρ id w (do pure (.value (← Instr.indexAt t vx vy))) (iaA (sizeT P e) x y) := by
  cases x with
  | sl b o l sz cap =>
    obtain ⟨B, base, tot, a, c, h1, rfl, h2⟩ := hx
    refine natK_ok fun k i hi => iff_ok fun hlt => ?_
    subst hi
    cases hy
    have hlt : i < l := Nat.le_of_ble_eq_true hlt
    obtain ⟨inf, hi, hi2⟩ := info_of_size hz
    refine val_ok (v := .pointer (some ⟨B, base + (o + i * sizeT P e), none⟩)) ?_ ⟨B, base, tot, h1, rfl⟩
    have h3 : (0 : Int) ≤ i ∧ (i : Int) < l := ⟨by omega, by omega⟩
    rw [h2.addr (by omega), sizeT_eq hi]
    simp [Instr.indexAt, run_asIntOf, run_underlying ht, h3, run_sizeOf' hi, add_eq, Nat.add_assoc, hlt]
  | _ => exact trivial
theorem iar_ok {t e : TypeId} {m n : Nat} (ht : P.underlying t = some (.array n e)) (hz : sizeT P e = m + 1) (hx : VR X ρ x vx) (hy : VR X ρ y vy) : OpR X P W Z ρ id w (do pure (.value (← Instr.indexAt t vx vy))) (iarA n (sizeT P e) x y) := by
  cases x with
  | p b o =>
    obtain ⟨B, base, tot, h1, rfl⟩ := hx
    refine natK_ok fun k i hi => iff_ok fun hlt => ?_
    subst hi
    cases hy
    have hlt : i < n := Nat.le_of_ble_eq_true hlt
    obtain ⟨inf, hi, hi2⟩ := info_of_size hz
    refine val_ok (v := .pointer (some ⟨B, base + (o + i * sizeT P e), none⟩)) ?_ ⟨B, base, tot, h1, rfl⟩
    have h3 : (0 : Int) ≤ i ∧ (i : Int) < n := ⟨by omega, by omega⟩
    rw [sizeT_eq hi]
    simp [Instr.indexAt, run_asIntOf, run_underlying ht, h3, run_sizeOf' hi, add_eq, Nat.add_assoc, hlt, Instr.sureAddr]
  | _ => exact trivial
theorem strN_take (bs : List UInt8) (a : Nat) (ha : a ≤ bs.length) : strN (bs.take a) = strN bs / 256 ^ (bs.length - a) := by
  have h1 := strN_append (bs.take a) (bs.drop a)
  rw [List.take_append_drop] at h1
  have h2 := strN_lt (bs.drop a)
  rw [List.length_drop] at h1 h2
  rw [h1, Nat.mul_comm, Nat.mul_add_div (Nat.pow_pos (by decide)), Nat.div_eq_of_lt h2, Nat.add_zero]
theorem strN_drop (bs : List UInt8) (a : Nat) : strN (bs.drop a) = strN bs % 256 ^ (bs.length - a) := by
  have h1 := strN_append (bs.take a) (bs.drop a)
  rw [List.take_append_drop] at h1
  have h2 := strN_lt (bs.drop a)
  rw [List.length_drop] at h1 h2
  rw [h1, Nat.mul_comm, Nat.mul_add_mod, Nat.mod_eq_of_lt h2]
theorem strN_cut (bs : List UInt8) (a b : Nat) (hab : a ≤ b) (hb : b ≤ bs.length) : strN ((bs.take b).drop a) = strN bs / 256 ^ (bs.length - b) % 256 ^ (b - a) := by
  rw [strN_drop, strN_take bs b hb, List.length_take, Nat.min_eq_left hb]
theorem strN_at (bs : List UInt8) (i : Nat) (hi : i < bs.length) : (bs[i]).toNat = strN bs / 256 ^ (bs.length - 1 - i) % 256 := by
  have h1 := strN_cut bs i (i + 1) (by omega) hi
  have h2 : (bs.take (i + 1)).drop i = [bs[i]] := by
    rw [List.take_succ_eq_append_getElem hi, List.drop_append_of_le_length (by simp; omega)]
    simp
  rw [h2] at h1
  have h3 : strN [bs[i]] = (bs[i]).toNat := by simp [strN]
  rw [h3] at h1
  rw [h1, show bs.length - (i + 1) = bs.length - 1 - i by omega, show i + 1 - i = 1 by omega]
theorem ixs_ok {t : TypeId} (ht : P.underlying t = some .string) (hx : VR X ρ x vx) (hy : VR X ρ y vy) : OpR X P W Z ρ id w (do pure (.value (← Instr.index t vx vy))) (ixsA x y) := by
  cases x with
  | s l n =>
    obtain ⟨bs, rfl, rfl, rfl⟩ := hx
    refine natK_ok fun k i hi => iff_ok fun hlt => ?_
    subst hi
    cases hy
    have hlt : i < bs.length := Nat.le_of_ble_eq_true hlt
    refine val_ok (v := .int .u8 ((bs[i]).toNat : Int)) ?_ ?_
    · simp [Instr.index, run_asIntOf, run_underlying ht, hlt]
    · show Value.int .u8 ((bs[i]).toNat : Int) = .int .u8 _
      rw [strN_at bs i hlt]
      rfl
  | _ => exact trivial
/-! ### slicing -/
def OptV (X : Nat → Value) (ρ : Rho) : Option AV → Option Value → Prop
  | none, v => v = none
  | some x, v => ∃ y, v = some y ∧ VR X ρ x y
def optN (v : Option Value) (d n : Nat) : Prop := (v = none ∧ n = d) ∨ ∃ k, v = some (.int k n)
theorem optK_ok {o : Option AV} {v : Option Value} {d : Nat} {K : Nat → OR} {s : Sem Next} (ho : OptV X ρ o v) (hk : ∀ n, optN v d n → OpR X P W Z ρ id w s (K n)) : OpR X P W Z ρ id w s (optK o d K) := by
  cases o with
  | none => cases ho; exact hk d (.inl ⟨rfl, rfl⟩)
  | some x =>
    obtain ⟨y, rfl, hy⟩ := ho
    refine natK_ok fun k m e => ?_
    subst e
    cases hy
    exact hk m (.inr ⟨k, rfl⟩)
theorem run_bound {k : IntKind} {n y : Nat} (hn : n ≤ y) (c : BoundsCode) (w : World) : (Instr.sliceBound (.int k n) y c).run P w = .ok n w := by
  have : (0 : Int) ≤ n ∧ (n : Int) ≤ y := ⟨by omega, by omega⟩
  simp [Instr.sliceBound, run_asIntOf, this, hn]
theorem run_bounds2 (isl : Bool) {len cap a b : Nat} {lo hi : Option Value} (h1 : optN lo 0 a) (h2 : optN hi len b) (hab : a ≤ b) (hb : b ≤ cap) (w : World) :
    (Instr.sliceBounds isl len cap lo hi none).run P w = .ok (a, b, cap) w := by
  unfold Instr.sliceBounds
  rcases h1 with ⟨rfl, rfl⟩ | ⟨k, rfl⟩ <;> rcases h2 with ⟨rfl, rfl⟩ | ⟨k', rfl⟩ <;> simp [run_bound hb, run_bound hab]
theorem run_bounds3 (isl : Bool) {len cap a b m : Nat} {lo : Option Value} {k k' : IntKind} (h1 : optN lo 0 a) (hab : a ≤ b) (hb : b ≤ m) (hm : m ≤ cap) (w : World) :
    (Instr.sliceBounds isl len cap lo (some (.int k b)) (some (.int k' m))).run P w = .ok (a, b, m) w := by
  unfold Instr.sliceBounds
  rcases h1 with ⟨rfl, rfl⟩ | ⟨k, rfl⟩ <;> simp [run_bound hb, run_bound hab, run_bound hm]
theorem slsS_ok {t : TypeId} (ht : P.underlying t = some .string) {lo hi : Option AV} {vl vh : Option Value} (hl : OptV X ρ lo vl) (hh : OptV X ρ hi vh) (hx : VR X ρ x vx) :
    OpR X P W Z ρ id w (do pure (.value (← Instr.sliceAt t vx vl vh none))) (slsS x lo hi) := by
  cases x with
  | s l n =>
    obtain ⟨bs, rfl, rfl, rfl⟩ := hx
    show OpR X P W Z ρ id w _ (optK lo 0 fun a => optK hi bs.length fun b => slS bs.length (strN bs) a b)
    refine optK_ok hl fun a h1 => optK_ok hh fun b h2 => iff_ok fun hc => ?_
    obtain ⟨h3, h4⟩ := andB_t.1 hc
    have h3 := Nat.le_of_ble_eq_true h3
    have h4 := Nat.le_of_ble_eq_true h4
    refine val_ok (v := .string (S ((bs.take b).drop a))) ?_ ⟨_, rfl, ?_, ?_⟩
    · have := run_bounds2 (P := P) false (len := (S bs).size) (cap := (S bs).size) h1 (by simpa using h2) h3 (by simpa using h4) w
      simp only [S_size] at this
      simp [Instr.sliceAt, run_underlying ht, Instr.slice, this, S_extract]
    · simp; omega
    · exact strN_cut bs a b h3 h4
  | _ => exact trivial
theorem offC_eq (c a o sz : Nat) : offC c a o sz = if c = a then o else o + a * sz := by
  unfold offC
  cases e : Nat.beq c a
  · rw [if_neg (Nat.ne_of_beq_eq_false e)]; rfl
  · rw [if_pos (Nat.eq_of_beq_eq_true e)]
theorem run_sliceAt {t e : TypeId} {i : TypeInfo} (ht : P.underlying t = some (.slice e)) (hi : P.info? e = some i) {a : Option Addr} {len cap : Nat} {lo hi' mx : Option Value} {l h' m : Nat} (hb : (Instr.sliceBounds true len cap lo hi' mx).run P w = .ok (l, h', m) w) :
    (Instr.sliceAt t (.slice a len cap) lo hi' mx).run P w = .ok (.slice (if m = l then a else a.map (·.add (l * i.size))) (h' - l) (m - l)) w := by
  simp [Instr.sliceAt, run_underlying ht, Instr.slice, hb, run_sizeOf' hi]
theorem sls_ok {t e : TypeId} {m : Nat} (ht : P.underlying t = some (.slice e)) (hz : sizeT P e = m + 1) {lo hi mx : Option AV} {vl vh vm : Option Value} (hl : OptV X ρ lo vl) (hh : OptV X ρ hi vh) (hm : OptV X ρ mx vm) (hx : VR X ρ x vx) :
    OpR X P W Z ρ id w (do pure (.value (← Instr.sliceAt t vx vl vh vm))) (slsA (sizeT P e) x lo hi mx) := by
  obtain ⟨i, hi1, hi2⟩ := info_of_size hz
  cases x with
  | sn =>
    cases hx
    cases mx with
    | some _ => exact trivial
    | none =>
      cases hm
      show OpR X P W Z ρ id w _ (optK lo 0 fun a => optK hi 0 fun b => iff (andB (Nat.beq a 0) (Nat.beq b 0)) (.v .sn))
      refine optK_ok hl fun a h1 => optK_ok hh fun b h2 => iff_ok fun hc => ?_
      obtain ⟨h3, h4⟩ := andB_t.1 hc
      have h3 := Nat.eq_of_beq_eq_true h3
      have h4 := Nat.eq_of_beq_eq_true h4
      subst h3; subst h4
      exact val_ok (v := .slice none 0 0) (by rw [run_sliceAt ht hi1 (run_bounds2 true h1 h2 (Nat.le_refl _) (Nat.le_refl _) w)]; rfl) rfl
  | sl b o l sz cap =>
    obtain ⟨B, base, tot, a, c, h1, rfl, h2⟩ := hx
    refine iff_ok fun hsz => ?_
    have hsz := Nat.eq_of_beq_eq_true hsz
    subst hsz
    have hle := h2.le
    cases mx with
    | none =>
      cases hm
      refine optK_ok hl fun lo h3 => optK_ok hh fun hi h4 => ?_
      cases cap with
      | none =>
        refine iff_ok fun hc => ?_
        obtain ⟨h5, h6⟩ := andB_t.1 hc
        have h5 := Nat.le_of_ble_eq_true h5
        have h6 := Nat.le_of_ble_eq_true h6
        refine val_ok (run_sliceAt ht hi1 (run_bounds2 true h3 h4 h5 (by omega) w)) ⟨B, base, tot, if c = lo then a else a.add (lo * i.size), c - lo, h1, ?_, ?_⟩
        · split <;> rfl
        · have h7 := h2.2.2
          refine ⟨?_, (by show hi - lo ≤ c - lo; omega), fun hne => ?_⟩
          · split
            · exact h2.1
            · rw [block_add]; exact h2.1
          · obtain ⟨h8, h9⟩ := h7 (by omega)
            rw [if_neg (by omega), h8, add_eq, sizeT_eq hi1]
            refine ⟨by rw [Nat.add_assoc]; rfl, ?_⟩
            rw [sizeT_eq hi1] at h9
            have : lo * i.size + (c - lo) * i.size = c * i.size := by rw [← Nat.add_mul]; congr 1; omega
            show base + (o + lo * i.size) + (c - lo) * i.size ≤ tot
            omega
      | some c0 =>
        refine iff_ok fun hc => ?_
        obtain ⟨h5, h6⟩ := andB_t.1 hc
        have h5 := Nat.le_of_ble_eq_true h5
        have h6 := Nat.le_of_ble_eq_true h6
        obtain ⟨h7, h8, h9⟩ := h2.2
        subst h7
        refine val_ok (run_sliceAt ht hi1 (run_bounds2 true h3 h4 h5 h6 w)) ⟨B, base, tot, if c = lo then a else a.add (lo * i.size), c - lo, h1, ?_, ?_⟩
        · split <;> rfl
        · rw [offC_eq, h8, sizeT_eq hi1]
          refine ⟨?_, rfl, ?_, ?_⟩
          · split
            · rfl
            · rw [block_add]
          · split
            · rfl
            · rw [add_eq, Nat.add_assoc]
          · show hi - lo ≤ c - lo; omega
    | some mx =>
      obtain ⟨ym, rfl, hym⟩ := hm
      refine natK_ok fun k m' e => ?_
      subst e
      cases hym
      refine optK_ok hl fun lo h3 => ?_
      cases hi with
      | none => exact trivial
      | some hi =>
        obtain ⟨yh, rfl, hyh⟩ := hh
        refine natK_ok fun k' h' e => ?_
        subst e
        cases hyh
        have key : ∀ c', c' ≤ c → (∀ lo', lo' ≤ c' → a = ⟨B, base + o, none⟩) → OpR X P W Z ρ id w (do pure (.value (← Instr.sliceAt t (.slice (some a) l c) vl (some (.int k' (h' : Int))) (some (.int k (m' : Int)))))) (sl3 b o (sizeT P e) c' lo h' m') := fun c' hc' ha => by
          refine iff_ok fun hc => ?_
          obtain ⟨h5, hc⟩ := andB_t.1 hc
          obtain ⟨h6, h7⟩ := andB_t.1 hc
          have h5 := Nat.le_of_ble_eq_true h5
          have h6 := Nat.le_of_ble_eq_true h6
          have h7 := Nat.le_of_ble_eq_true h7
          have ha := ha 0 (by omega)
          refine val_ok (run_sliceAt ht hi1 (run_bounds3 true h3 h5 h6 (by omega) w)) ⟨B, base, tot, if m' = lo then a else a.add (lo * i.size), m' - lo, h1, ?_, ?_⟩
          · split <;> rfl
          · rw [offC_eq, ha, sizeT_eq hi1]
            refine ⟨?_, rfl, ?_, ?_⟩
            · split
              · rfl
              · rw [block_add]
            · split
              · rfl
              · rw [add_eq, Nat.add_assoc]
            · show h' - lo ≤ m' - lo; omega
        cases cap with
        | none =>
          refine iff_ok fun hpos => ?_
          have hpos : 0 < l := Nat.le_of_ble_eq_true hpos
          exact key l hle fun _ _ => h2.addr hpos
        | some c0 =>
          obtain ⟨h7, h8, h9⟩ := h2.2
          subst h7
          exact key c (Nat.le_refl _) fun _ _ => h8
  | _ => exact trivial
end
section
variable {X : Nat → Value} {P : Program} {W : World} {Z : Nat → Option Obj} {ρ : Rho} {id : Nat} {w : World} {h : T AB}
variable {x y : AV} {vx vy : Value}
/-- what an append or a copy takes its cells from -/
structure SrcR (X : Nat → Value) (P : Program) (ρ : Rho) (w : World) (sz : Nat) (n : Nat) (new : List AV) (v : Value) (r : List Value) : Prop where
  len : (Builtin.lenOf v).run P w = .ok n w
  size : r.length = n * sz
  vals : VRs X ρ new r
  first : ∀ k, k ≤ n → (Builtin.firstCells sz k v).run P w = .ok (r.take (k * sz)).toArray w
  firstD : ∀ k, k ≤ n → (Builtin.firstCells sz k v).run P w.drew = .ok (r.take (k * sz)).toArray w.drew
theorem cell_drew (w : World) (a : Addr) : w.drew.cell? a = w.cell? a := rfl
theorem load0 (a : Addr) (w : World) : (loadCells a 0).run P w = .ok #[] w := by
  have := run_loadCells_list (P := P) w a [] (by simp)
  simpa using this
theorem first_of {a : Addr} {sz l c : Nat} {r : List Value} (hr : r.length = l * sz) (hc : ∀ j v, r[j]? = some v → w.cell? (a.add j) = some v) (k : Nat) (hk : k ≤ l) :
    (Builtin.firstCells sz k (.slice (some a) l c)).run P w = .ok (r.take (k * sz)).toArray w := by
  have hle : k * sz ≤ l * sz := Nat.mul_le_mul_right _ hk
  have h1 := run_loadCells_list (P := P) w a (r.take (k * sz)) (fun j v hj => by
    have hj' : j < k * sz := by have := (List.getElem?_eq_some_iff.1 hj).1; simp at this; omega
    rw [List.getElem?_take, if_pos hj'] at hj
    exact hc j v hj)
  rw [List.length_take, hr, Nat.min_eq_left hle] at h1
  exact h1
theorem first_sl {b B base tot s' : Nat} {vs : List AV} (C : ∃ cs E fz, Cells X Z ρ w b vs B base tot cs E fz) {o l sz : Nat} {cap : Option Nat} {a : Addr} {c : Nat} (h2 : SlR B base tot o l s' cap a c) (hn : o + l * sz ≤ vs.length) :
    ∃ r : List Value, r.length = l * sz ∧ VRs X ρ ((vs.drop o).take (l * sz)) r ∧ ∀ j v, r[j]? = some v → w.cell? (a.add j) = some v := by
  obtain ⟨cs, E, fz, C⟩ := C
  obtain ⟨r, h3, h4, h5, _⟩ := C.cut hn
  refine ⟨r, h3, h4, fun j v hj => ?_⟩
  have hl : 0 < l := by
    rcases Nat.eq_zero_or_pos l with rfl | h
    · rw [Nat.zero_mul] at h3; rw [List.length_eq_zero_iff.1 h3] at hj; simp at hj
    · exact h
  rw [h2.addr hl]
  exact h5 j v hj
theorem src_ok (H : HR X W Z ρ h.get w) {sz : Nat} {K : Nat → List AV → OR} {s : Sem Next} (hx : VR X ρ x vx) (hk : ∀ n new r, SrcR X P ρ w sz n new vx r → OpR X P W Z ρ id w s (K n new)) : OpR X P W Z ρ id w s (srcK h sz x K) := by
  cases x with
  | sn =>
    cases hx
    refine hk 0 [] [] ⟨rfl, by simp, VRs_nil.2 rfl, fun k hk' => ?_, fun k hk' => ?_⟩ <;> simp [Builtin.firstCells]
  | sl b o l s' cap =>
    obtain ⟨B, base, tot, a, c, h1, rfl, h2⟩ := hx
    refine cellsAt_ok fun vs hb => cutK_ok fun hn => ?_
    obtain ⟨r, h3, h4, h5⟩ := first_sl (H.cells hb h1) h2 hn
    exact hk l _ r ⟨rfl, h3, h4, fun k hk' => first_of h3 h5 k hk', fun k hk' => first_of (w := w.drew) h3 (fun j v hj => h5 j v hj) k hk'⟩
  | s l n =>
    obtain ⟨bs, rfl, rfl, rfl⟩ := hx
    refine iff_ok fun h1 => ?_
    have h1 := Nat.eq_of_beq_eq_true h1
    subst h1
    have h2 := digits_eq (X := X) ρ bs.length bs [] [] rfl (VRs_nil.2 rfl)
    rw [List.append_nil] at h2
    refine hk bs.length _ (Bs bs) ⟨by simp [Builtin.lenOf], by simp, h2, fun k hk' => ?_, fun k hk' => ?_⟩ <;>
      simp [Builtin.firstCells, S_extract, Bs, B, S] <;> rfl
  | _ => exact trivial
/-- the types of an append's arguments -/
structure AppT (P : Program) (ts : Array TypeId) (t e : TypeId) (i : TypeInfo) (z : Value) : Prop where
  t0 : ts[0]? = some t
  t1 : ts[1]? = none ∨ ∃ tx, ts[1]? = some tx ∧ (P.underlying tx = some .string ∨ ∃ e', P.underlying tx = some (.slice e'))
  ht : P.underlying t = some (.slice e)
  hi : P.info? e = some i
  hz : i.zero = some z
  pos : 0 < i.size
  zs : z.cells.size = i.size
  by_ : i.bytes ≤ 65536
theorem run_app_fit {ts : Array TypeId} {t e ty : TypeId} {i : TypeInfo} {z : Value} (T : AppT P ts t e i z) {base : Option Addr} {l c n : Nat} {r : List Value} (hlen : (Builtin.lenOf vx).run P w = .ok n w) (hf : (Builtin.firstCells i.size n vx).run P w = .ok r.toArray w) (hfit : l + n ≤ c)
    {w' : World} (hs : ∀ a, base = some a → (storeCells (a.add (l * i.size)) r).run P w = .ok () w') (hn : base = none → w' = w) :
    (Builtin.append_ ts ty #[.slice base l c, vx]).run P w = .ok (.slice base (l + n) c) w' := by
  rcases T.t1 with h1 | ⟨tx, h1, hu | ⟨e', hu⟩⟩
  · cases base with
    | none => (have := hn rfl; subst this; simp [Builtin.append_, T.t0, h1, run_underlying T.ht, sizeOf, typeInfo, T.hi, hlen, hf, hfit])
    | some a => simp [Builtin.append_, T.t0, h1, run_underlying T.ht, sizeOf, typeInfo, T.hi, hlen, hf, hfit, hs a rfl]
  · cases base with
    | none => (have := hn rfl; subst this; simp [Builtin.append_, T.t0, h1, run_underlying T.ht, run_underlying hu, sizeOf, typeInfo, T.hi, hlen, hf, hfit])
    | some a => simp [Builtin.append_, T.t0, h1, run_underlying T.ht, run_underlying hu, sizeOf, typeInfo, T.hi, hlen, hf, hfit, hs a rfl]
  · cases base with
    | none => (have := hn rfl; subst this; simp [Builtin.append_, T.t0, h1, run_underlying T.ht, run_underlying hu, sizeOf, typeInfo, T.hi, hlen, hf, hfit])
    | some a => simp [Builtin.append_, T.t0, h1, run_underlying T.ht, run_underlying hu, sizeOf, typeInfo, T.hi, hlen, hf, hfit, hs a rfl]
theorem run_app_grow {ts : Array TypeId} {t e ty : TypeId} {i : TypeInfo} {z : Value} (T : AppT P ts t e i z) {base : Option Addr} {l c n : Nat} {olds r : List Value} (hlen : (Builtin.lenOf vx).run P w = .ok n w) (hf : (Builtin.firstCells i.size n vx).run P w.drew = .ok r.toArray w.drew) (hfit : c < l + n)
    (ho : (Builtin.firstCells i.size l (.slice base l c)).run P w.drew = .ok olds.toArray w.drew) (hm : l + n ≤ most) :
    (Builtin.append_ ts ty #[.slice base l c, vx]).run P w = .ok (.slice (some ⟨w.heap.size, 0, none⟩) (l + n) (grownCap w (l + n) c e))
      (w.drew.alloc (.cells ((olds ++ r).toArray ++ Builtin.zeroCells z.cells (grownCap w (l + n) c e - (l + n))) e)) := by
  have hm' : l + n ≤ 1000000 := hm
  have hn : ¬ (l + n ≤ c) := by omega
  have hb : (l + n) * i.bytes ≤ 1000000 * 65536 := Nat.mul_le_mul hm' T.by_
  have hg := growslice_fits (need := l + n) (old := c) (bytes := i.bytes) hfit (by omega)
  have h48' : ¬ (281474976710656 < Builtin.nextslicecap (l + n) c * i.bytes) := by omega
  have h63' : ¬ (9223372036854775807 < ((l : Int) + (n : Int))) := by omega
  rcases T.t1 with h1 | ⟨tx, h1, hu | ⟨e', hu⟩⟩
  · simp [Builtin.append_, T.t0, h1, run_underlying T.ht, sizeOf, typeInfo, zeroValue, T.hi, T.hz, hlen, hn, h63', h48', Question.forced, hf, ho, newRow, grownCap]
    congr 2
    apply Array.ext'
    simp
  · simp [Builtin.append_, T.t0, h1, run_underlying T.ht, run_underlying hu, sizeOf, typeInfo, zeroValue, T.hi, T.hz, hlen, hn, h63', h48', Question.forced, hf, ho, newRow, grownCap]
    congr 2
    apply Array.ext'
    simp
  · simp [Builtin.append_, T.t0, h1, run_underlying T.ht, run_underlying hu, sizeOf, typeInfo, zeroValue, T.hi, T.hz, hlen, hn, h63', h48', Question.forced, hf, ho, newRow, grownCap]
    congr 2
    apply Array.ext'
    simp
end
section
variable {X : Nat → Value} {P : Program} {W : World} {Z : Nat → Option Obj} {ρ : Rho} {id : Nat} {w : World} {h : T AB}
variable {x y : AV} {vx vy : Value}
theorem bo_part {ρ' : Rho} {cs : List AV} {vals : Array Value} (E : TypeId) {r : List Value} (hv : VRs X ρ' cs r) {tot : Nat} (ht : vals.size = tot) (hle : cs.length ≤ tot) (hr : vals.toList.take cs.length = r) : BO X ρ' (.c cs) (.cells vals E) 0 tot := by
  refine ⟨vals, E, 0, 0, rfl, ht, by omega, ?_, by omega⟩
  rw [List.drop_zero, hr]
  exact hv
theorem hr_alloc (H : HR X W Z ρ h.get w) {o : Obj} {w' : World} (G : Grown w w' o) (hid : ρ id = none) {b : AB} {tot : Nat} (hb : BO X (upd ρ id (w.heap.size, 0, tot)) b o 0 tot) : HR X W Z (upd ρ id (w.heap.size, 0, tot)) (h.new id b).get w' :=
  H.alloc G hid hb (new_get (H.none_of hid))
theorem alloch_ok {s : Sem Value} {v : Value} {w' : World} {x : AV} {h' : T AB} {ρ' : Rho} (hr : s.run P w = .ok v w') (he : Ext ρ ρ') (hi : ∀ i, i ≠ id → ρ' i = ρ i) (H : HR X W Z ρ' h'.get w') (hx : VR X ρ' x v) : OpR X P W Z ρ id w (do pure (.value (← s))) (.h x h') :=
  ⟨.value v, v, w', ρ', by simp [hr], rfl, he, hi, H, hx⟩
theorem zc_size (z : Array Value) (n : Nat) : (Builtin.zeroCells z n).size = n * z.size := by simp [Builtin.zeroCells]
theorem upd_ne {ρ : Rho} {x : Nat × Nat × Nat} : ∀ i, i ≠ id → upd ρ id x i = ρ i := fun i hi => by simp [upd, hi]
/-- the row that append makes anew -/
theorem grow_ok (H : HR X W Z ρ h.get w) (hid : ρ id = none) {ts : Array TypeId} {t e ty : TypeId} {i : TypeInfo} {z : Value} (A : AppT P ts t e i z) {base : Option Addr} {l c n : Nat} {olds r : List Value} {old new : List AV} (hlen : (Builtin.lenOf vx).run P w = .ok n w) (hf : (Builtin.firstCells i.size n vx).run P w.drew = .ok r.toArray w.drew) (hfit : c < l + n)
    (ho : (Builtin.firstCells i.size l (.slice base l c)).run P w.drew = .ok olds.toArray w.drew) (hm : l + n ≤ most) (hol : olds.length = l * i.size) (hnl : r.length = n * i.size) (hov : VRs X ρ old olds) (hnv : VRs X ρ new r) {h' : T AB} (hh : ∀ k c, h'.get k = some c → h.get k = some c) :
    OpR X P W Z ρ id w (do pure (.value (← Builtin.append_ ts ty #[.slice base l c, vx]))) (.h (.sl id 0 (l + n) i.size none) (h'.new id (.c (old ++ new)))) := by
  have hge := grownCap_ge w (l + n) c e
  have hsz : (olds ++ r).length = (l + n) * i.size := by rw [List.length_append, hol, hnl, Nat.add_mul]
  have hcs : (old ++ new).length = (l + n) * i.size := by rw [List.length_append, ← hov.len, ← hnv.len, ← List.length_append]; exact hsz
  have hle : (l + n) * i.size ≤ grownCap w (l + n) c e * i.size := Nat.mul_le_mul_right _ hge
  have htot : ((olds ++ r).toArray ++ Builtin.zeroCells z.cells (grownCap w (l + n) c e - (l + n))).size = grownCap w (l + n) c e * i.size := by
    rw [Array.size_append, zc_size, A.zs, List.size_toArray, hsz, ← Nat.add_mul]
    congr 1
    omega
  refine alloch_ok (ρ' := upd ρ id (w.heap.size, 0, grownCap w (l + n) c e * i.size)) (run_app_grow A hlen hf hfit ho hm) (Ext.upd hid _) upd_ne ?_ ⟨w.heap.size, 0, grownCap w (l + n) c e * i.size, _, _, by simp [upd], rfl, rfl, hge, fun _ => ⟨rfl, by simp⟩⟩
  have G : Grown w (w.drew.alloc (.cells ((olds ++ r).toArray ++ Builtin.zeroCells z.cells (grownCap w (l + n) c e - (l + n))) e)) _ := ⟨rfl, rfl, rfl, rfl⟩
  refine hr_alloc (H.weaken hh) G hid (bo_part e (r := olds ++ r) ?_ htot (by rw [hcs]; exact hle) ?_)
  · exact VRs.ext (Ext.upd hid _) _ _ (hov.append hnv)
  · rw [hcs, ← hsz, Array.toList_append]
    exact List.take_left
theorem setRow_old {w : World} {B : Nat} {cs : Array Value} : (w.setRow B cs).heap.size = w.heap.size := by simp [World.setRow]
theorem app_ok (hX : XOk X) (H : HR X W Z ρ h.get w) (hid : ρ id = none) {ts : Array TypeId} {t e ty : TypeId} {i : TypeInfo} {z : Value} (A : AppT P ts t e i z) (hx : VR X ρ x vx) (hy : VR X ρ y vy) :
    OpR X P W Z ρ id w (do pure (.value (← Builtin.append_ ts ty #[vx, vy]))) (appA h id (sizeT P e) x y) := by
  rw [sizeT_eq A.hi]
  refine src_ok H hy fun n new r R => ?_
  have hrn : r.take (n * i.size) = r := List.take_of_length_le (by rw [R.size]; omega)
  have hf1 := R.first n (Nat.le_refl _)
  have hf2 := R.firstD n (Nat.le_refl _)
  rw [hrn] at hf1 hf2
  cases x with
  | sn =>
    cases hx
    cases n with
    | zero =>
      exact alloch_ok (v := .slice none 0 0) (w' := w) (ρ' := ρ) (run_app_fit A R.len hf1 (by simp) (by intro a ha; cases ha) fun _ => rfl) (Ext.refl _) (fun _ _ => rfl) H rfl
    | succ n =>
      refine iff_ok fun hm => ?_
      have hm := Nat.le_of_ble_eq_true hm
      have := grow_ok (old := []) (olds := []) (ty := ty) H hid A (base := none) (l := 0) (c := 0) R.len hf2 (by omega) (by simp [Builtin.firstCells]) (by rw [Nat.zero_add]; exact hm) (by simp) R.size (VRs_nil.2 rfl) R.vals (h' := h) (fun _ _ hh => hh)
      simpa using this
  | sl b o l s' cap =>
    obtain ⟨B, base, tot, a, c, h1, rfl, h2⟩ := hx
    refine iff_ok fun hc => ?_
    obtain ⟨h3, h4⟩ := andB_t.1 hc
    have h3 := Nat.eq_of_beq_eq_true h3
    have h4 := Nat.le_of_ble_eq_true h4
    subst h3
    have hle := h2.le
    cases n with
    | zero =>
      have hr0 : r = [] := List.length_eq_zero_iff.1 (by rw [R.size]; omega)
      subst hr0
      exact alloch_ok (v := .slice (some a) l c) (w' := w) (ρ' := ρ) (run_app_fit A R.len hf1 (by simpa using hle) (by intro a ha; rfl) (by intro h; cases h)) (Ext.refl _) (fun _ _ => rfl) H ⟨B, base, tot, a, c, h1, rfl, h2⟩
    | succ n =>
      cases cap with
      | none =>
        show OpR X P W Z ρ id w _ (cellsAt h b fun vs => cutK vs o (l * i.size) fun old => iff (allFlat new) (.h (.sl id 0 (l + (n + 1)) i.size none) ((h.del b).new id (.c (appL old new)))))
        refine cellsAt_ok fun vs hb => cutK_ok fun hn => iff_ok fun hfl => ?_
        rw [appL_eq]
        obtain ⟨olds, h5, h6, h7⟩ := first_sl (H.cells hb h1) h2 hn
        by_cases hfit : l + (n + 1) ≤ c
        · obtain ⟨cs, E, fz, C⟩ := H.cells hb h1
          obtain ⟨h8, h9⟩ := h2.2.2 (by omega)
          have hlen := C.fits
          have hsz := C.size
          have hmul : l * i.size + (n + 1) * i.size ≤ c * i.size := by rw [← Nat.add_mul]; exact Nat.mul_le_mul_right _ hfit
          have hrl := R.size
          have hst := run_storesF (P := P) B (base + o + l * i.size) E fz r 0 cs w C.heap (by omega) (by rw [C.size]; exact C.free) (all_one hX hfl R.vals)
          refine alloch_ok (ρ' := upd ρ id (B, base + o, tot)) (run_app_fit A R.len hf1 hfit (fun a' ha => ?_) (by intro hh; cases hh)) (Ext.upd hid _) upd_ne ?_ ⟨B, base + o, tot, a, c, by simp [upd], rfl, h2.1, ?_⟩ (w' := w.setRow B (cs.toList.take (base + o + l * i.size + 0) ++ r ++ cs.toList.drop (base + o + l * i.size + 0 + r.length)).toArray)
          · injection ha with ha; subst ha
            rw [h8, add_eq]
            exact hst
          · -- the heap
            have he : Ext ρ (upd ρ id (B, base + o, tot)) := Ext.upd hid _
            have hbid : b ≠ id := fun e => by subst e; rw [hid] at h1; cases h1
            have Tn := turned_setRow (cs := (cs.toList.take (base + o + l * i.size + 0) ++ r ++ cs.toList.drop (base + o + l * i.size + 0 + r.length)).toArray) C.heap
            have hval : VRs X (upd ρ id (B, base + o, tot)) (((vs.drop o).take (l * i.size)) ++ new) (olds ++ r) := VRs.ext he _ _ (h6.append R.vals)
            have hvl := hval.len
            have holdlen : ((vs.drop o).take (l * i.size)).length = l * i.size := by rw [← h6.len]; exact h5
            have hbo : BO X (upd ρ id (B, base + o, tot)) (.c (((vs.drop o).take (l * i.size)) ++ new)) (.cells (cs.toList.take (base + o + l * i.size + 0) ++ r ++ cs.toList.drop (base + o + l * i.size + 0 + r.length)).toArray E fz) (base + o) tot := by
              refine ⟨_, E, fz.1, fz.2, rfl, ?_, ?_, ?_, C.free⟩
              · simp; omega
              · rw [← hvl, List.length_append]; omega
              · rw [← hvl]
                have e1 : ((cs.toList.take (base + o + l * i.size + 0) ++ r ++ cs.toList.drop (base + o + l * i.size + 0 + r.length)).toArray.toList.drop (base + o)).take (olds ++ r).length = olds ++ r := by
                  obtain ⟨r2, q1, _, _, q4⟩ := C.cut hn
                  have ho2 : olds = r2 := by
                    apply List.ext_getElem?
                    intro k
                    by_cases hk : k < l * i.size
                    · have hk2 : k < olds.length := by omega
                      have a1 := h7 k _ (List.getElem?_eq_getElem hk2)
                      have hl0 : a = ⟨B, base + o, none⟩ := h8
                      have hk3 : k < r2.length := by omega
                      have a2 := (C.cut hn)
                      obtain ⟨r3, w1, w2, w3, w4⟩ := a2
                      have : r3 = r2 := by rw [w4, q4]
                      subst this
                      have a3 := w3 k _ (List.getElem?_eq_getElem hk3)
                      rw [hl0, a3] at a1
                      injection a1 with a1
                      rw [List.getElem?_eq_getElem hk2, List.getElem?_eq_getElem hk3, a1]
                    · rw [List.getElem?_eq_none (by omega), List.getElem?_eq_none (by omega)]
                  subst ho2
                  apply List.ext_getElem?
                  intro k
                  have el : min (base + o + l * i.size + 0) cs.toList.length = base + o + l * i.size := by simp; omega
                  simp only [List.getElem?_take, List.getElem?_drop, List.getElem?_append, List.length_append, List.length_take, el, h5]
                  by_cases hk : k < l * i.size
                  · rw [if_pos (by omega), if_pos (by omega), if_pos (by omega), if_pos (by omega), if_pos hk, q4, List.getElem?_take, if_pos hk, List.getElem?_drop]
                  · by_cases hk2 : k < l * i.size + r.length
                    · rw [if_pos hk2, if_pos (by omega), if_neg (by omega), if_neg hk]
                      congr 1
                      omega
                    · rw [if_neg hk2, if_neg hk]
                      symm
                      rw [List.getElem?_eq_none_iff]
                      omega
                rw [e1]
                exact hval
            refine ⟨Tn.os.trans H.os, Tn.tape.trans H.tape, Tn.output.trans H.output, fun k o' hz => ?_, fun j d hd => ?_, fun j k d d' B' x y hd hd' hx hy => ?_⟩
            · have : k ≠ B := fun e => by subst e; rw [C.z] at hz; cases hz
              rw [Tn.same k this]; exact H.ext k o' hz
            · rcases new_get (show (h.del b).get id = none by
                cases e : (h.del b).get id with
                | none => rfl
                | some x => have := (del_get id x e).2; rw [H.none_of hid] at this; cases this) j d hd with ⟨rfl, rfl⟩ | ⟨hne, h10⟩
              · exact ⟨B, base + o, tot, _, by simp [upd], C.z, Tn.it, hbo⟩
              · obtain ⟨hjb, h11⟩ := del_get j d h10
                obtain ⟨B', base', tot', o', g1, g2, g3, g4⟩ := H.blk j d h11
                have : B' ≠ B := fun e => by subst e; exact hjb (H.inj j b d _ B' _ _ h11 hb g1 h1)
                exact ⟨B', base', tot', o', he _ _ g1, g2, by rw [Tn.same B' this]; exact g3, g4.ext he⟩
            · have hdn : (h.del b).get id = none := by
                cases e : (h.del b).get id with
                | none => rfl
                | some x => have := (del_get id x e).2; rw [H.none_of hid] at this; cases this
              rcases new_get hdn j d hd with ⟨rfl, rfl⟩ | ⟨hne, h10⟩ <;> rcases new_get hdn k d' hd' with ⟨rfl, rfl⟩ | ⟨hne', h10'⟩
              · rfl
              · obtain ⟨hkb, h11⟩ := del_get k d' h10'
                simp only [upd, if_neg hne', if_true] at hx hy
                injection hx with hx; injection hx with hx _; subst hx
                exact absurd (H.inj k b d' _ B _ _ h11 hb hy h1) hkb
              · obtain ⟨hjb, h11⟩ := del_get j d h10
                simp only [upd, if_neg hne, if_true] at hx hy
                injection hy with hy; injection hy with hy _; subst hy
                exact absurd (H.inj j b d _ B _ _ h11 hb hx h1) hjb
              · obtain ⟨_, h11⟩ := del_get j d h10
                obtain ⟨_, h12⟩ := del_get k d' h10'
                simp only [upd, if_neg hne, if_neg hne'] at hx hy
                exact H.inj j k d d' B' x y h11 h12 hx hy
          · exact ⟨hfit, fun _ => ⟨h8, by omega⟩⟩
        · exact grow_ok H hid A R.len hf2 (by omega) (by have := first_of (P := P) (w := w.drew) (c := c) h5 h7 l (Nat.le_refl _); rwa [List.take_of_length_le (by omega)] at this) h4 h5 R.size h6 R.vals (fun k c hk => (del_get k c hk).2)
      | some c0 =>
        obtain ⟨h7, h8, h9⟩ := h2.2
        subst h7
        show OpR X P W Z ρ id w _ (cellsAt h b fun vs => Bool.rec (motive := fun _ => OR)
          (cutK vs o (l * i.size) fun old => .h (.sl id 0 (l + (n + 1)) i.size none) (h.new id (.c (appL old new))))
          (iff (andB (Nat.ble (o + (l + (n + 1)) * i.size) (lenL vs)) (allFlat new)) (.h (.sl b o (l + (n + 1)) i.size (some c)) (h.set b (.c (putAt vs (o + l * i.size) new)))))
          (Nat.ble (l + (n + 1)) c))
        refine cellsAt_ok fun vs hb => ?_
        cases hle2 : Nat.ble (l + (n + 1)) c
        · have hgt : ¬ (l + (n + 1) ≤ c) := fun hh => by rw [Nat.ble_eq_true_of_le hh] at hle2; cases hle2
          refine cutK_ok fun hn => ?_
          rw [appL_eq]
          obtain ⟨olds, h5, h6, h7⟩ := first_sl (H.cells hb h1) h2 hn
          exact grow_ok H hid A R.len hf2 (by omega) (by have := first_of (P := P) (w := w.drew) (c := c) h5 h7 l (Nat.le_refl _); rwa [List.take_of_length_le (by omega)] at this) h4 h5 R.size h6 R.vals (fun k c hk => hk)
        · have hfit := Nat.le_of_ble_eq_true hle2
          refine iff_ok fun hc => ?_
          obtain ⟨h10, h11⟩ := andB_t.1 hc
          have h10 := Nat.le_of_ble_eq_true h10
          rw [lenL_eq] at h10
          obtain ⟨cs, E, fz, C⟩ := H.cells hb h1
          have hnl := R.vals.len
          have hrl := R.size
          obtain ⟨w', h12, h13⟩ := H.write (P := P) C hb (o := o + l * i.size) (ys := new) (vals := r) (by rw [← hnl, hrl]; rw [Nat.add_mul] at h10; omega) R.vals (all_one hX h11 R.vals)
          refine alloch_ok (w' := w') (ρ' := ρ) (run_app_fit A R.len hf1 hfit (fun a' ha => ?_) (by intro hh; cases hh)) (Ext.refl _) (fun _ _ => rfl) h13 ⟨B, base, tot, a, c, h1, rfl, h2.1, rfl, h8, hfit⟩
          injection ha with ha; subst ha
          rw [h8, add_eq, Nat.add_assoc]
          exact h12
  | _ => exact trivial
end
section
variable {X : Nat → Value} {P : Program} {W : World} {Z : Nat → Option Obj} {ρ : Rho} {id : Nat} {w : World} {h : T AB}
variable {x y : AV} {vx vy : Value}
theorem minN_eq (a b : Nat) : minN a b = min a b := by
  unfold minN
  cases e : Nat.ble a b
  · have : ¬ a ≤ b := fun h => by rw [Nat.ble_eq_true_of_le h] at e; cases e
    show b = _; omega
  · have := Nat.le_of_ble_eq_true e
    show a = _; omega
theorem copy_ok (hX : XOk X) (H : HR X W Z ρ h.get w) {ts : Array TypeId} {t e ty : TypeId} {i : TypeInfo} (h0 : ts[0]? = some t) (ht : P.underlying t = some (.slice e)) (hi : P.info? e = some i) (hx : VR X ρ x vx) (hy : VR X ρ y vy) :
    OpR X P W Z ρ id w (do pure (.value (← Builtin.copy_ ts ty #[vx, vy]))) (copyA h (sizeT P e) x y) := by
  rw [sizeT_eq hi]
  refine src_ok H hy fun n new r R => ?_
  cases x with
  | sn =>
    cases hx
    have hf := R.first 0 (Nat.zero_le _)
    refine valh_ok (v := .int .i64 0) (w' := w) ?_ H rfl
    simp [Builtin.copy_, h0, run_underlying ht, R.len, run_sizeOf' hi, hf, goInt, show n.min 0 = 0 from Nat.min_zero n]
  | sl b o l s' cap =>
    obtain ⟨B, base, tot, a, c, h1, rfl, h2⟩ := hx
    refine cellsAt_ok fun vs hb => iff_ok fun hc => ?_
    obtain ⟨h3, h4⟩ := andB_t.1 hc
    have h3 := Nat.le_of_ble_eq_true h3
    rw [lenL_eq] at h3
    rw [takeL_eq]
    rw [minN_eq] at h3 ⊢
    have hf := R.first (min n l) (Nat.min_le_left _ _)
    have hml : min n l * i.size ≤ n * i.size := Nat.mul_le_mul_right _ (Nat.min_le_left _ _)
    have htl : (new.take (min n l * i.size)).length = min n l * i.size := by rw [List.length_take, ← R.vals.len, R.size]; omega
    have key : ∃ w', (storeCells a (r.take (min n l * i.size)) 0).run P w = .ok () w' ∧ HR X W Z ρ (h.set b (.c (putAt vs o (new.take (min n l * i.size))))).get w' := by
      obtain ⟨cs, E, fz, C⟩ := H.cells hb h1
      have hall : ∀ v ∈ r.take (min n l * i.size), v.oneCell' = true := fun v hv => all_one hX h4 R.vals v (List.mem_of_mem_take hv)
      obtain ⟨w', h5, h6⟩ := H.write (P := P) C hb (o := o) (ys := new.take (min n l * i.size)) (vals := r.take (min n l * i.size)) (by rw [htl]; exact h3) (R.vals.take _) hall
      refine ⟨w', ?_, h6⟩
      rcases Nat.eq_zero_or_pos l with rfl | hl
      · simp only [Nat.min_zero, Nat.zero_mul, List.take_zero] at h5 ⊢
        exact h5
      · rw [h2.addr hl]; exact h5
    obtain ⟨w', h5, h6⟩ := key
    refine valh_ok (v := .int .i64 (min n l : Nat)) (w' := w') ?_ h6 rfl
    simp [Builtin.copy_, h0, run_underlying ht, R.len, run_sizeOf' hi, show n.min l = min n l from rfl, hf, h5, goInt]
  | _ => exact trivial
theorem repL_len (z : List AV) : ∀ n, (repL z n).length = n * z.length
  | 0 => by show ([] : List AV).length = _; simp
  | n + 1 => by show (appL z (repL z n)).length = _; rw [appL_eq, List.length_append, repL_len z n, Nat.add_mul, Nat.one_mul, Nat.add_comm]
theorem repL_ok {ρ' : Rho} {z : List AV} {r : List Value} (h : VRs X ρ' z r) : ∀ n, VRs X ρ' (repL z n) ((List.replicate n r).flatten)
  | 0 => VRs_nil.2 rfl
  | n + 1 => by
    show VRs X ρ' (appL z (repL z n)) _
    rw [appL_eq, List.replicate_succ, List.flatten_cons]
    exact h.append (repL_ok h n)
theorem flat_at (r : List Value) (hr : 0 < r.length) : ∀ (n k : Nat), k < n * r.length → ((List.replicate n r).flatten)[k]? = r[k % r.length]?
  | 0, k, hk => by simp at hk
  | n + 1, k, hk => by
    rw [List.replicate_succ, List.flatten_cons, List.getElem?_append]
    by_cases h : k < r.length
    · rw [if_pos h, Nat.mod_eq_of_lt h]
    · rw [if_neg h, flat_at r hr n (k - r.length) (by rw [Nat.add_mul, Nat.one_mul] at hk; omega), ← Nat.mod_eq_sub_mod (by omega)]
theorem zeros_eq (z : Array Value) (n : Nat) (hz : 0 < z.size) : ((Array.range (n * z.size)).map (fun k => z[k % z.size]!)).toList = (List.replicate n z.toList).flatten := by
  apply List.ext_getElem?
  intro k
  by_cases hk : k < n * z.size
  · rw [flat_at z.toList (by simpa using hz) n k (by simpa using hk)]
    have : k % z.size < z.size := Nat.mod_lt _ hz
    simp [hk, getElem!_pos z (k % z.size) this, List.getElem?_eq_getElem, this]
  · rw [List.getElem?_eq_none (by simp; omega), List.getElem?_eq_none (by simp; omega)]
theorem run_asInt (k : IntKind) (n : Int) (w : World) : (asInt (.int k n)).run P w = .ok n w := by simp [asInt, asIntOf]
theorem mksl_ok (hid : ρ id = none) {t e : TypeId} {i : TypeInfo} {z : Value} (ht : P.underlying t = some (.slice e)) (hi : P.info? e = some i) (hz : i.zero = some z) (hs : 0 < i.size) (hzs : z.cells.size = i.size) (hb : i.bytes ≤ 65536) (hx : VR X ρ x vx) (hy : VR X ρ y vy) :
    OpR X P W Z ρ id w (do pure (.value (← Instr.makeSlice t vx vy))) (mkslA id (sizeT P e) (cellsOf (ofVal z)) x y) := by
  rw [sizeT_eq hi]
  refine natK_ok fun k l hl => natK_ok fun k' c hc => iff_ok fun hh => ?_
  subst hl; subst hc
  cases hx; cases hy
  obtain ⟨h1, h2⟩ := andB_t.1 hh
  have h1 : l ≤ c := Nat.le_of_ble_eq_true h1
  have h2 : c ≤ 65536 := Nat.le_of_ble_eq_true h2
  have hmul : i.bytes * c ≤ 65536 * 65536 := Nat.mul_le_mul hb h2
  have hmn : IntKind.i64.min = -9223372036854775808 := rfl
  have hmx : IntKind.i64.max = 9223372036854775807 := rfl
  have hw1 : IntKind.i64.wrap (l : Int) = l := wrap_in .i64 _ (by rw [hmn]; omega) (by rw [hmx]; omega)
  have hw2 : IntKind.i64.wrap (c : Int) = c := wrap_in .i64 _ (by rw [hmn]; omega) (by rw [hmx]; omega)
  have hz0 := cells_ofVal (X := X) (upd ρ id (w.heap.size, 0, c * i.size)) z
  have hrun : (Instr.makeSlice t (.int k (l : Int)) (.int k' (c : Int))).run P w = .ok (.slice (some ⟨w.heap.size, 0, none⟩) l c) { w with heap := w.heap.push (.cells ((Array.range (c * i.size)).map (fun k => z.cells[k % z.cells.size]!)) e) } := by
    have h3 : ¬ ((2 : Int) ^ 48 < (i.bytes : Int) * (c : Int)) := by
      have : (i.bytes : Int) * (c : Int) = ((i.bytes * c : Nat) : Int) := by push_cast; rfl
      rw [this]; omega
    have h4 : ¬ ((c : Int) < 0) := by omega
    have h5 : ¬ ((l : Int) < 0) := by omega
    have h6 : ¬ ((c : Int) < (l : Int)) := by omega
    have h7 : ¬ (281474976710656 < (i.bytes : Int) * (c : Int)) := by simpa using h3
    by_cases hc0 : c = 0
    · subst hc0
      have hl0 : l = 0 := by omega
      subst hl0
      have hw0 : IntKind.i64.wrap 0 = 0 := rfl
      simp [Instr.makeSlice, run_underlying ht, run_asInt, typeInfo, hi, hw0, run_sizeOf' hi, newRow, newObj, Sem.run]
      have hr0 : Array.range 0 = #[] := rfl
      simp [hr0]
    · have hne : ¬ (c * i.size = 0) := by
        intro h; rcases Nat.mul_eq_zero.1 h with h | h <;> omega
      have hc' : ¬ (c = 0 ∨ i.size = 0) := by omega
      simp [Instr.makeSlice, run_underlying ht, run_asInt, typeInfo, hi, hw1, hw2, h7, h4, h5, h6, run_sizeOf' hi, run_zero hi hz, newRow, newObj, hne, hc', Sem.run]
  refine alloc_ok (tot := c * i.size) hrun (grown_new _ _) ⟨_, e, 0, 0, rfl, by simp, ?_, ?_, by omega⟩ ⟨w.heap.size, 0, c * i.size, _, _, by simp [upd], rfl, rfl, rfl, rfl, h1⟩
  · rw [repL_len, ← hz0.len]; simp [hzs]
  · have hl : (repL (cellsOf (ofVal z)) c).length = c * z.cells.size := by rw [repL_len, ← hz0.len]; simp
    rw [hl, List.drop_zero, ← hzs, zeros_eq z.cells c (by omega)]
    rw [List.take_of_length_le (by simp)]
    rw [← hzs] at hz0
    exact repL_ok hz0 c
/-! ### rows laid by hand -/
def ParR (X : Nat → Value) (ρ : Rho) : List (Nat × Nat × AV) → List (Nat × Value) → (Nat → Option (Nat × Nat)) → Prop
  | [], r, _ => r = []
  | p :: ps, r, pl => ∃ k v r', r = (k, v) :: r' ∧ VR X ρ p.2.2 v ∧ (isKnown p.2.2 = true → lenL (cellsOf p.2.2) = p.2.1 → pl k = some (p.1, p.2.1)) ∧ ParR X ρ ps r' pl
theorem foldl_put (off : Nat) : ∀ (xs : List Value) (k : Nat) (cs : Array Value), off + k + xs.length ≤ cs.size →
    ((xs.zipIdx k).foldl (fun cs (cj : Value × Nat) => cs.setIfInBounds (off + cj.2) cj.1) cs).toList = cs.toList.take (off + k) ++ xs ++ cs.toList.drop (off + k + xs.length)
  | [], k, cs, h => by simp
  | x :: xs, k, cs, h => by
    rw [List.zipIdx_cons, List.foldl_cons, foldl_put off xs (k + 1) _ (by simp at h ⊢; omega)]
    have e := list_seg_step cs.toList (off + k) x xs (by simp at h ⊢; omega)
    simpa [Array.toList_setIfInBounds, Nat.add_assoc] using e
theorem fill_ok (hX : XOk X) {pl : Nat → Option (Nat × Nat)} {K : List AV → OR} {s : Sem Next} : ∀ {ps : List (Nat × Nat × AV)} {r : List (Nat × Value)} {cells : List AV} {cs : Array Value}, ParR X ρ ps r pl → VRs X ρ cells cs.toList →
    (∀ cells' cs', Instr.fill pl cs r = some cs' → VRs X ρ cells' cs'.toList → OpR X P W Z ρ id w s (K cells')) → OpR X P W Z ρ id w s (fillA ps cells K)
  | [], r, cells, cs, hp, hc, hk => hk cells cs (by rw [show r = [] from hp]; rfl) hc
  | q :: ps, r, cells, cs, ⟨k, v, r', hr, hv, hpl, hp⟩, hc, hk => by
    subst hr
    show OpR X P W Z ρ id w s (iff (andB (isKnown q.2.2) (andB (Nat.beq (lenL (cellsOf q.2.2)) q.2.1) (Nat.ble (Nat.add q.1 q.2.1) (lenL cells)))) (fillA ps (putAt cells q.1 (cellsOf q.2.2)) K))
    refine iff_ok fun hh => ?_
    obtain ⟨h1, hh⟩ := andB_t.1 hh
    obtain ⟨h2, h3⟩ := andB_t.1 hh
    have h2 := Nat.eq_of_beq_eq_true h2
    have h3 : q.1 + q.2.1 ≤ lenL cells := Nat.le_of_ble_eq_true h3
    have hv' := cells_known hX h1 hv
    have hpl' := hpl h1 h2
    rw [lenL_eq] at h2 h3
    have hvl := hv'.len
    have hcl := hc.len
    simp only [Array.length_toList] at hvl hcl
    refine fill_ok hX (cs := (v.cells.zipIdx.foldl (fun cs (cj : Value × Nat) => cs.setIfInBounds (q.1 + cj.2) cj.1) cs)) hp ?_ fun cells' cs' hf hv2 => hk cells' cs' ?_ hv2
    · have := foldl_put q.1 v.cells.toList 0 cs (by simp; omega)
      rw [← Array.foldl_toList, Array.toList_zipIdx, this, putAt_eq cells q.1 _ (by omega)]
      have hvl2 : (cellsOf q.2.2).length = v.cells.toList.length := by simp [hvl]
      rw [hvl2]
      exact ((hc.take q.1).append hv').append (hc.drop (q.1 + v.cells.toList.length))
    · rw [Instr.fill, hpl']
      have h5 : ¬ (v.cells.size ≠ q.2.1 ∨ cs.size < q.1 + v.cells.size) := by omega
      simp only
      rw [if_neg (by simp; omega)]
      exact hf
end
section
variable {X : Nat → Value} {P : Program} {W : World} {Z : Nat → Option Obj} {ρ : Rho} {id : Nat} {w : World} {h : T AB}
variable {x y : AV} {vx vy : Value}
theorem len_sok {ts : Array TypeId} {t ty : TypeId} (h0 : ts[0]? = some t) (ht : P.underlying t = some .string) (hx : VR X ρ x vx) : OpR X P W Z ρ id w (do pure (.value (← Builtin.len_ ts ty #[vx]))) (lenSA x) := by
  cases x with
  | s l n =>
    obtain ⟨bs, rfl, rfl, rfl⟩ := hx
    exact val_ok (v := goInt bs.length) (by simp [Builtin.len_, h0, run_underlying ht]) rfl
  | _ => exact trivial
theorem len_lok {ts : Array TypeId} {t ty e : TypeId} (h0 : ts[0]? = some t) (ht : P.underlying t = some (.slice e)) (hx : VR X ρ x vx) : OpR X P W Z ρ id w (do pure (.value (← Builtin.len_ ts ty #[vx]))) (lenLA x) := by
  cases x with
  | sl b o l s c =>
    obtain ⟨_, _, _, a, c', _, rfl, _⟩ := hx
    exact val_ok (v := goInt l) (by simp [Builtin.len_, h0, run_underlying ht]) rfl
  | sn =>
    cases hx
    exact val_ok (v := goInt (0 : Nat)) (by simp [Builtin.len_, h0, run_underlying ht]) rfl
  | _ => exact trivial
theorem cap_ok {ts : Array TypeId} {t ty e : TypeId} (h0 : ts[0]? = some t) (ht : P.underlying t = some (.slice e)) (hx : VR X ρ x vx) : OpR X P W Z ρ id w (do pure (.value (← Builtin.cap_ ts ty #[vx]))) (capA x) := by
  cases x with
  | sl b o l s c =>
    obtain ⟨_, _, _, a, c', _, rfl, h2⟩ := hx
    cases c with
    | none => exact trivial
    | some c =>
      obtain ⟨_, rfl, _⟩ := h2
      exact val_ok (v := goInt c') (by simp [Builtin.cap_, h0, run_underlying ht]) rfl
  | sn =>
    cases hx
    exact val_ok (v := goInt (0 : Nat)) (by simp [Builtin.cap_, h0, run_underlying ht]) rfl
  | _ => exact trivial
/-! ### least and greatest -/
theorem minL_ok {f : Sem Value → Sem Next} (hf : f = fun s => do pure (.value (← s))) : ∀ {l : List AV} {r : List Value} {k : IntKind} {n : Int}, VRs X ρ l r → OpR X P W Z ρ id w (do pure (.value (← r.foldlM Builtin.min2 (.int k n)))) (minL l k n)
  | [], r, k, n, hr => by rw [VRs_nil.1 hr]; exact val_ok (v := .int k n) (by simp) rfl
  | x :: l, r, k, n, hr => by
    obtain ⟨y, r', rfl, h1, h2⟩ := VRs_cons.1 hr
    show OpR X P W Z ρ id w _ (intK x fun _ m => minL l k (Bool.rec m n (leI n m)))
    refine intK_ok fun k' m e => ?_
    subst e
    cases h1
    have hb : (Bool.rec m n (leI n m) : Int) = if m < n then m else n := by
      rw [leI_eq]
      by_cases hnm : n ≤ m
      · rw [decide_eq_true hnm, if_neg (by omega)]
      · rw [decide_eq_false hnm, if_pos (by omega)]
    rw [hb]
    have := minL_ok hf (k := k) (n := if m < n then m else n) h2
    simpa [List.foldlM_cons, Builtin.min2] using this
theorem maxL_ok {f : Sem Value → Sem Next} (hf : f = fun s => do pure (.value (← s))) : ∀ {l : List AV} {r : List Value} {k : IntKind} {n : Int}, VRs X ρ l r → OpR X P W Z ρ id w (do pure (.value (← r.foldlM Builtin.max2 (.int k n)))) (maxL l k n)
  | [], r, k, n, hr => by rw [VRs_nil.1 hr]; exact val_ok (v := .int k n) (by simp) rfl
  | x :: l, r, k, n, hr => by
    obtain ⟨y, r', rfl, h1, h2⟩ := VRs_cons.1 hr
    show OpR X P W Z ρ id w _ (intK x fun _ m => maxL l k (Bool.rec m n (leI m n)))
    refine intK_ok fun k' m e => ?_
    subst e
    cases h1
    have hb : (Bool.rec m n (leI m n) : Int) = if m > n then m else n := by
      rw [leI_eq]
      by_cases hnm : m ≤ n
      · rw [decide_eq_true hnm, if_neg (by omega)]
      · rw [decide_eq_false hnm, if_pos (by omega)]
    rw [hb]
    have := maxL_ok hf (k := k) (n := if m > n then m else n) h2
    simpa [List.foldlM_cons, Builtin.max2] using this
theorem min_ok {ts : Array TypeId} {ty : TypeId} {l : List AV} {args : Array Value} (hr : VRs X ρ l args.toList) : OpR X P W Z ρ id w (do pure (.value (← Builtin.min_ ts ty args))) (minA l) := by
  cases l with
  | nil => exact trivial
  | cons x l =>
    obtain ⟨y, r', hr', h1, h2⟩ := VRs_cons.1 hr
    show OpR X P W Z ρ id w _ (intK x fun k n => minL l k n)
    refine intK_ok fun k m e => ?_
    subst e
    cases h1
    have := minL_ok (W := W) (Z := Z) (id := id) (w := w) (P := P) rfl (k := k) (n := m) h2
    simpa [Builtin.min_, hr'] using this
theorem max_ok {ts : Array TypeId} {ty : TypeId} {l : List AV} {args : Array Value} (hr : VRs X ρ l args.toList) : OpR X P W Z ρ id w (do pure (.value (← Builtin.max_ ts ty args))) (maxA l) := by
  cases l with
  | nil => exact trivial
  | cons x l =>
    obtain ⟨y, r', hr', h1, h2⟩ := VRs_cons.1 hr
    show OpR X P W Z ρ id w _ (intK x fun k n => maxL l k n)
    refine intK_ok fun k m e => ?_
    subst e
    cases h1
    have := maxL_ok (W := W) (Z := Z) (id := id) (w := w) (P := P) rfl (k := k) (n := m) h2
    simpa [Builtin.max_, hr'] using this
/-! ### build -/
theorem run_mapM_places {fs : Array Field} (hF : ∀ f ∈ fs.toList, ∃ i, P.info? f.type = some i) (w : World) :
    (fs.mapM fun f => (do pure (f.offset, ← sizeOf f.type) : Sem (Nat × Nat))).run P w = .ok (fs.map fun f => (f.offset, sizeT P f.type)) w := by
  obtain ⟨l⟩ := fs
  simp only [List.mapM_toArray]
  have key : ∀ l : List Field, (∀ f ∈ l, ∃ i, P.info? f.type = some i) → (l.mapM fun f => (do pure (f.offset, ← sizeOf f.type) : Sem (Nat × Nat))).run P w = .ok (l.map fun f => (f.offset, sizeT P f.type)) w := by
    intro l
    induction l with
    | nil => intro _; simp
    | cons f l ih =>
      intro hl
      obtain ⟨i, hi⟩ := hl f (by simp)
      simp only [List.mapM_cons, Sem.run_bind, run_sizeOf' hi, Result.andThen_ok, Sem.run_pure, ih (fun g hg => hl g (by simp [hg])), sizeT_eq hi, List.map_cons]
  rw [map_eq_pure_bind, Sem.run_bind, key l (by simpa using hF)]
  simp
theorem places_ok {fs : Array Field} {ρ : Rho} {g : T AV} {lo : L} {a : Act} {nt kp : Nat} (E : EnvR X ρ nt g lo a) : ∀ (ps : List (Nat × Operand)), ParR X ρ (evP g lo (placeS P kp fs ps)) (ps.map fun (i, x) => (i, a.eval x)) fun k => (fs.map fun f : Field => (f.offset, sizeT P f.type))[k]?
  | [] => rfl
  | (k, x) :: ps => by
    refine ⟨k, a.eval x, _, rfl, ?_, ?_, places_ok E ps⟩
    · cases e : fs[k]? with
      | none => simp only [placeS, e]; exact trivial
      | some f => simp only [placeS, e]; exact E.ev kp x
    · cases e : fs[k]? with
      | none => simp only [placeS, e]; intro hh; cases hh
      | some f => simp only [placeS, e]; intro _ _; simp [e]
theorem placesE_ok {ρ : Rho} {g : T AV} {lo : L} {a : Act} {nt kp : Nat} (E : EnvR X ρ nt g lo a) (sz : Nat) : ∀ (ps : List (Nat × Operand)), ParR X ρ (evP g lo (placeE kp sz ps)) (ps.map fun (i, x) => (i, a.eval x)) fun k => some (k * sz, sz)
  | [] => rfl
  | (k, x) :: ps => ⟨k, a.eval x, _, rfl, E.ev kp x, fun _ _ => rfl, placesE_ok E sz ps⟩
theorem build_ok (hX : XOk X) {t : TypeId} {fs : Array Field} {ps : Array (Nat × Operand)} {i : TypeInfo} {z : Value} {g : T AV} {lo : L} {a : Act} {nt kp : Nat} (E : EnvR X ρ nt g lo a) (ht : P.underlying t = some (.struct fs)) (hF : ∀ f ∈ fs.toList, ∃ i, P.info? f.type = some i) (hi : P.info? t = some i) (hz : i.zero = some z) :
    OpR X P W Z ρ id w (do pure (.value (← Instr.build t (ps.map fun (i, x) => (i, a.eval x))))) (fillA (evP g lo (placeS P kp fs ps.toList)) (cellsOf (ofVal z)) fun cs => .v (.ag cs)) := by
  refine fill_ok hX (places_ok E ps.toList) (cells_ofVal ρ z) fun cells' cs' hf hv => ?_
  refine val_ok (v := .agg cs') ?_ ⟨cs', rfl, hv⟩
  have hf' : Instr.fill (fun k => (fs.map fun f : Field => (f.offset, sizeT P f.type))[k]?) z.cells (ps.map fun (i, x) => (i, a.eval x)).toList = some cs' := by simpa using hf
  have hm := run_mapM_places hF w
  simp only [Instr.build, Sem.run_bind, run_zero hi hz, Result.andThen_ok, run_underlying ht, hm]
  rw [hf']
  rfl
theorem buildE_ok (hX : XOk X) {t e : TypeId} {n : Nat} {ps : Array (Nat × Operand)} {i ie : TypeInfo} {z : Value} {g : T AV} {lo : L} {a : Act} {nt kp : Nat} (E : EnvR X ρ nt g lo a) (ht : P.underlying t = some (.array n e)) (he : P.info? e = some ie) (hi : P.info? t = some i) (hz : i.zero = some z) :
    OpR X P W Z ρ id w (do pure (.value (← Instr.build t (ps.map fun (i, x) => (i, a.eval x))))) (fillA (evP g lo (placeE kp (sizeT P e) ps.toList)) (cellsOf (ofVal z)) fun cs => .v (.ag cs)) := by
  refine fill_ok hX (placesE_ok E (sizeT P e) ps.toList) (cells_ofVal ρ z) fun cells' cs' hf hv => ?_
  refine val_ok (v := .agg cs') ?_ ⟨cs', rfl, hv⟩
  have hf' : Instr.fill (fun k => some (k * sizeT P e, sizeT P e)) z.cells (ps.map fun (i, x) => (i, a.eval x)).toList = some cs' := by simpa using hf
  rw [sizeT_eq he] at hf'
  simp only [Instr.build, Sem.run_bind, run_zero hi hz, Result.andThen_ok, run_underlying ht, run_sizeOf' he]
  rw [hf']
  rfl
theorem fill_size {pl : Nat → Option (Nat × Nat)} : ∀ {r : List (Nat × Value)} {cs cs' : Array Value}, Instr.fill pl cs r = some cs' → cs'.size = cs.size
  | [], cs, cs', h => by simp [Instr.fill] at h; rw [h]
  | (i, v) :: r, cs, cs', h => by
    rw [Instr.fill] at h
    cases e : pl i with
    | none => rw [e] at h; simp at h
    | some p =>
      rw [e] at h
      simp only at h
      split at h
      · cases h
      · rw [fill_size h]
        have : ∀ (l : List (Value × Nat)) (cs : Array Value), (l.foldl (fun cs (cj : Value × Nat) => cs.setIfInBounds (p.1 + cj.2) cj.1) cs).size = cs.size := by
          intro l
          induction l with
          | nil => intro cs; rfl
          | cons x l ih => intro cs; rw [List.foldl_cons, ih]; simp
        rw [← Array.foldl_toList]
        exact this _ _
theorem bsl_ok (hX : XOk X) (hid : ρ id = none) {t e : TypeId} {n : Nat} {ps : Array (Nat × Operand)} {ie : TypeInfo} {z : Value} {g : T AV} {lo : L} {a : Act} {nt kp : Nat} (E : EnvR X ρ nt g lo a) (ht : P.underlying t = some (.slice e)) (hs : 0 < ie.size) (hn : n * sizeT P e ≤ 65536) (he : P.info? e = some ie) (hz : ie.zero = some z) (hzs : z.cells.size = ie.size) :
    OpR X P W Z ρ id w (do pure (.value (← Instr.buildSlice t n (ps.map fun (i, x) => (i, a.eval x))))) (fillA (evP g lo (placeE kp (sizeT P e) ps.toList)) (repL (cellsOf (ofVal z)) n) fun cs => .a (.sl id 0 n (sizeT P e) (some n)) (.c cs)) := by
  have hzc := repL_ok (cells_ofVal (X := X) ρ z) n
  rw [← zeros_eq z.cells n (by omega), hzs] at hzc
  refine fill_ok hX (placesE_ok E (sizeT P e) ps.toList) hzc fun cells' cs' hf hv => ?_
  have hf' : Instr.fill (fun k => some (k * sizeT P e, sizeT P e)) ((Array.range (n * ie.size)).map (fun k => z.cells[k % ie.size]!)) (ps.map fun (i, x) => (i, a.eval x)).toList = some cs' := by simpa using hf
  have hsz := fill_size hf'
  generalize (ps.map fun ((i, x) : Nat × Operand) => (i, a.eval x)) = LL at hf' ⊢
  rw [sizeT_eq he] at hf' hn ⊢
  have hvl := hv.len
  refine alloc_ok (v := .slice (some ⟨w.heap.size, 0, none⟩) n n) (w' := { w with heap := w.heap.push (.cells cs' e) }) (tot := cells'.length) ?_ (grown_new _ _) (bo_new e (VRs.ext (Ext.upd hid _) _ _ hv)) ⟨w.heap.size, 0, cells'.length, _, _, by simp [upd], rfl, rfl, rfl, rfl, Nat.le_refl _⟩
  have hn' : ¬ (2 ^ 24 < n * ie.size) := by omega
  rw [← hzs] at hf' hn'
  by_cases h0 : n * z.cells.size = 0
  · have h0' : n = 0 := by rcases Nat.mul_eq_zero.1 h0 with h | h <;> omega
    subst h0'
    have hr0 : Array.range 0 = #[] := rfl
    simp only [Nat.zero_mul, hr0, Array.map_empty] at hf'
    simp only [Instr.buildSlice, Sem.run_bind, run_underlying ht, Result.andThen_ok, run_sizeOf' he, ← hzs, hr0, Nat.zero_mul, Array.map_empty]
    simp [hf', newRow, newObj, Sem.run]
  · simp only [Instr.buildSlice, Sem.run_bind, run_underlying ht, Result.andThen_ok, run_sizeOf' he, ← hzs, if_neg h0, if_neg hn', run_zero he hz, Sem.run_pure]
    simp [hf', newRow, newObj, Sem.run, run_zero he hz]
end
section
variable {X : Nat → Value} {P : Program} {W : World} {Z : Nat → Option Obj} {ρ : Rho} {id : Nat} {w : World} {h : T AB}
variable {x y : AV} {vx vy : Value}
theorem agg_false {e : TypeId} {k0 : IntKind} (he : P.underlying e = some (.int k0)) (w : World) : (Go.isAgg e).run P w = .ok false w := by
  simp [Go.isAgg, run_underlying he]
theorem part_at {e : TypeId} {k0 : IntKind} (he : P.underlying e = some (.int k0)) (cs : Array Value) (o : Nat) (v : Value) (hv : cs[o]? = some v) (w : World) : (Go.part e cs o).run P w = .ok v w := by
  simp [Go.part, agg_false he, hv]
theorem eq_int {e : TypeId} {k0 : IntKind} (he : P.underlying e = some (.int k0)) (d : Nat) (k : IntKind) (a b : Int) (w : World) : (Op.equalIn (d + 1) e (.int k a) (.int k b)).run P w = .ok (a == b) w := by
  rw [Op.equalIn]
  simp [run_underlying he]
theorem eq_arr {t e : TypeId} {k0 : IntKind} {i : TypeInfo} (ht : P.underlying t = some (.array 2 e)) (he : P.underlying e = some (.int k0)) (hi : P.info? e = some i) (hs : i.size = 1) (k l : IntKind) (a b a' b' : Int) (w : World) :
    (Op.equal t (.agg #[.int k a, .int l b]) (.agg #[.int k a', .int l b'])).run P w = .ok (a == a' && b == b') w := by
  show (Op.equalIn (9998 + 1 + 1) t _ _).run P w = _
  rw [Op.equalIn]
  simp only [Sem.run_bind, run_underlying ht, Result.andThen_ok, run_sizeOf' hi, hs]
  simp [Std.Legacy.Range.forIn_eq_forIn_range', Std.Legacy.Range.size, List.range'_succ, part_at he, eq_int he]
  cases h1 : a == a' <;> cases h2 : b == b' <;> simp_all
theorem eq_arr_ne {t e : TypeId} {k0 : IntKind} {i : TypeInfo} (ht : P.underlying t = some (.array 2 e)) (he : P.underlying e = some (.int k0)) (hi : P.info? e = some i) (hs : i.size = 1) (k l l' : IntKind) (a b a' b' : Int) (hne : a ≠ a') (w : World) :
    (Op.equal t (.agg #[.int k a, .int l b]) (.agg #[.int k a', .int l' b'])).run P w = .ok false w := by
  show (Op.equalIn (9998 + 1 + 1) t _ _).run P w = _
  rw [Op.equalIn]
  simp only [Sem.run_bind, run_underlying ht, Result.andThen_ok, run_sizeOf' hi, hs]
  simp [Std.Legacy.Range.forIn_eq_forIn_range', Std.Legacy.Range.size, List.range'_succ, part_at he, eq_int he, hne]
/-! ### keys -/
/-- which keys a map's type takes, and how they are told apart -/
inductive KeyK (P : Program) (kt : TypeId) : Kq → Prop
  | int {k0 : IntKind} (h : P.underlying kt = some (.int k0)) : KeyK P kt eqSI
  | str (h : P.underlying kt = some .string) : KeyK P kt eqSS
  | arr {e : TypeId} {k0 : IntKind} {i : TypeInfo} (h : P.underlying kt = some (.array 2 e)) (he : P.underlying e = some (.int k0)) (hi : P.info? e = some i) (hs : i.size = 1) : KeyK P kt eqA2
/-- a key of the kind -/
def IsKq (P : Program) (kt : TypeId) (v : Value) : Prop :=
  (∃ k0, P.underlying kt = some (.int k0) ∧ ∃ k a, v = .int k a) ∨ (P.underlying kt = some .string ∧ ∃ s, v = .string s) ∨
  (∃ e k0 i, P.underlying kt = some (.array 2 e) ∧ P.underlying e = some (.int k0) ∧ P.info? e = some i ∧ i.size = 1 ∧ ∃ k l a b, v = .agg #[.int k a, .int l b])
/-- two keys of the kind that differ -/
def Dif (P : Program) (kt : TypeId) (u v : Value) : Prop :=
  (∃ k0, P.underlying kt = some (.int k0) ∧ ∃ k a b, u = .int k a ∧ v = .int k b ∧ a ≠ b) ∨ (P.underlying kt = some .string ∧ ∃ s t, u = .string s ∧ v = .string t ∧ s ≠ t) ∨
  (∃ e k0 i, P.underlying kt = some (.array 2 e) ∧ P.underlying e = some (.int k0) ∧ P.info? e = some i ∧ i.size = 1 ∧ ∃ k l l' a b a' b', u = .agg #[.int k a, .int l b] ∧ v = .agg #[.int k a', .int l' b'] ∧ (a ≠ a' ∨ (l = l' ∧ b ≠ b')))
theorem tri_and {a b : Tri} : a.and b = .yes ↔ a = .yes ∧ b = .yes := by cases a <;> cases b <;> simp [Tri.and]
theorem tri_no {a b : Tri} : a.and b = .no → (a = .no) ∨ (a = .yes ∧ b = .no) := by cases a <;> cases b <;> simp [Tri.and]
theorem eq2_shape {a b : List AV} (h : eq2 a b ≠ .un) : ∃ k x l y k' x' l' y', a = [.i k x, .i l y] ∧ b = [.i k' x', .i l' y'] := by
  unfold eq2 at h
  split at h
  · exact ⟨_, _, _, _, _, _, _, _, rfl, rfl⟩
  · exact absurd rfl h
theorem arr2 {ρ : Rho} {k l : IntKind} {a b : Int} {v : Value} (hv : VR X ρ (.ag [.i k a, .i l b]) v) : v = .agg #[.int k a, .int l b] := by
  obtain ⟨arr, rfl, h1⟩ := hv
  obtain ⟨y, r, h2, h3, h4⟩ := VRs_cons.1 h1
  obtain ⟨y', r', h5, h6, h7⟩ := VRs_cons.1 h4
  have h8 := VRs_nil.1 h7
  subst h8; subst h5
  cases h3; cases h6
  obtain ⟨l⟩ := arr
  simp at h2
  rw [h2]
theorem key_yes {kt : TypeId} {q : Kq} (K : KeyK P kt q) (hx : VR X ρ x vx) (hy : VR X ρ y vy) (h : q x y = .yes) : vx = vy ∧ IsKq P kt vx := by
  cases K with
  | int ht =>
    cases x with
    | i k a =>
      cases y with
      | i k' b =>
        obtain ⟨rfl, rfl⟩ := eqIK_yes (show eqIK k k' a b = .yes from h)
        cases hx; cases hy
        exact ⟨rfl, .inl ⟨_, ht, _, _, rfl⟩⟩
      | _ => cases h
    | _ => cases h
  | str ht =>
    cases x with
    | s l a =>
      cases y with
      | s l' b =>
        obtain ⟨bs, rfl, rfl, rfl⟩ := hx
        obtain ⟨cs, rfl, rfl, rfl⟩ := hy
        have h1 := of_yes (show Tri.of (eqS bs.length (strN bs) cs.length (strN cs)) = .yes from h)
        rw [eqS_eq] at h1
        have := of_decide_eq_true h1
        subst this
        exact ⟨rfl, .inr (.inl ⟨ht, _, rfl⟩)⟩
      | _ => cases h
    | _ => cases h
  | arr ht he hi hs =>
    cases x with
    | ag a =>
      cases y with
      | ag b =>
        have h' : eq2 a b = .yes := h
        obtain ⟨k, x, l, y, k', x', l', y', rfl, rfl⟩ := eq2_shape (by rw [h']; intro h; cases h)
        obtain ⟨h1, h2⟩ := tri_and.1 (show (eqIK k k' x x').and (eqIK l l' y y') = .yes from h')
        obtain ⟨rfl, rfl⟩ := eqIK_yes h1
        obtain ⟨rfl, rfl⟩ := eqIK_yes h2
        rw [arr2 hx, arr2 hy]
        exact ⟨rfl, .inr (.inr ⟨_, _, _, ht, he, hi, hs, _, _, _, _, rfl⟩)⟩
      | _ => cases h
    | _ => cases h
theorem key_no {kt : TypeId} {q : Kq} (K : KeyK P kt q) (hx : VR X ρ x vx) (hy : VR X ρ y vy) (h : q x y = .no) : Dif P kt vx vy := by
  cases K with
  | int ht =>
    cases x with
    | i k a =>
      cases y with
      | i k' b =>
        obtain ⟨rfl, hne⟩ := eqIK_no (show eqIK k k' a b = .no from h)
        cases hx; cases hy
        exact .inl ⟨_, ht, _, _, _, rfl, rfl, hne⟩
      | _ => cases h
    | _ => cases h
  | str ht =>
    cases x with
    | s l a =>
      cases y with
      | s l' b =>
        obtain ⟨bs, rfl, rfl, rfl⟩ := hx
        obtain ⟨cs, rfl, rfl, rfl⟩ := hy
        have h1 := of_no (show Tri.of (eqS bs.length (strN bs) cs.length (strN cs)) = .no from h)
        rw [eqS_eq] at h1
        have := of_decide_eq_false h1
        exact .inr (.inl ⟨ht, _, _, rfl, rfl, fun e => this (S_inj e)⟩)
      | _ => cases h
    | _ => cases h
  | arr ht he hi hs =>
    cases x with
    | ag a =>
      cases y with
      | ag b =>
        have h' : eq2 a b = .no := h
        obtain ⟨k, x, l, y, k', x', l', y', rfl, rfl⟩ := eq2_shape (by rw [h']; intro h; cases h)
        have h3 : eqIK k k' x x' = .no ∨ (eqIK k k' x x' = .yes ∧ eqIK l l' y y' = .no) := tri_no (show (eqIK k k' x x').and (eqIK l l' y y') = .no from h')
        rw [arr2 hx, arr2 hy]
        rcases h3 with h3 | ⟨h3, h4⟩
        · obtain ⟨rfl, hne⟩ := eqIK_no h3
          exact .inr (.inr ⟨_, _, _, ht, he, hi, hs, _, _, _, _, _, _, _, rfl, rfl, .inl hne⟩)
        · obtain ⟨rfl, rfl⟩ := eqIK_yes h3
          obtain ⟨rfl, hne⟩ := eqIK_no h4
          exact .inr (.inr ⟨_, _, _, ht, he, hi, hs, _, _, _, _, _, _, _, rfl, rfl, .inr ⟨rfl, hne⟩⟩)
      | _ => cases h
    | _ => cases h
theorem run_check {kt : TypeId} {v : Value} (hk : IsKq P kt v) (em : Bool) (w : World) : (Instr.checkKey em 10000 kt v).run P w = .ok () w := by
  show (Instr.checkKey em (9998 + 1 + 1) kt v).run P w = _
  rw [Instr.checkKey]
  rcases hk with ⟨k0, h, k, a, rfl⟩ | ⟨h, s, rfl⟩ | ⟨e, k0, i, h, he, hi, hs, k, l, a, b, rfl⟩
  · simp [run_underlying h]
  · simp [run_underlying h]
  · simp only [Sem.run_bind, run_underlying h, Result.andThen_ok]
    have hc : ∀ (k : IntKind) (a : Int), (Instr.checkKey em (9998 + 1) e (.int k a)).run P w = .ok () w := fun k a => by
      rw [Instr.checkKey]; simp [run_underlying he]
    simp [Std.Legacy.Range.forIn_eq_forIn_range', Std.Legacy.Range.size, List.range'_succ, run_sizeOf' hi, hs, part_at he, hc]
theorem b_ne {s t : ByteArray} (h : s ≠ t) : (s == t) = false := by
  rw [Bool.eq_false_iff]; intro hh; exact h ((MapKept.bytes_beq s t).1 hh)
theorem b_self (s : ByteArray) : (s == s) = true := (MapKept.bytes_beq s s).2 rfl
/-- what a search finds -/
theorem find_none {kt : TypeId} {v : Value} : ∀ (l : List MapEntry) (i : Nat), (∀ e ∈ l, Dif P kt v e.key) → ∀ (w : World),
    (∀ d, P.underlying kt = some d → (∀ n e, d ≠ .array n e) → Instr.findNow d v l i = some none) ∧ (Instr.findAsking kt v l i).run P w = .ok none w
  | [], i, _, w => ⟨fun _ _ _ => rfl, rfl⟩
  | e :: l, i, h, w => by
    obtain ⟨h1, h2⟩ := find_none l (i + 1) (fun x hx => h x (by simp [hx])) w
    rcases h e (by simp) with ⟨k0, hu, k, a, b, rfl, hv, hne⟩ | ⟨hu, s, t, rfl, hv, hne⟩ | ⟨e', k0, i', hu, he, hi, hs, k, m, m', a, b, a', b', rfl, hv, hne⟩
    · refine ⟨fun d hd hn => ?_, ?_⟩
      · rw [hu] at hd; injection hd with hd; subst hd
        have hf : (a == b) = false := by simpa using hne
        simp only [Instr.findNow, Instr.sameNow, hv, if_true, hf]
        exact h1 _ hu hn
      · have : (Op.equal kt (.int k a) e.key).run P w = .ok false w := by
          rw [hv]; show (Op.equalIn (9999 + 1) kt _ _).run P w = _
          rw [eq_int hu]; simp [hne]
        rw [Instr.findAsking]
        simp [this, h2]
    · refine ⟨fun d hd hn => ?_, ?_⟩
      · rw [hu] at hd; injection hd with hd; subst hd
        have hf : (s == t) = false := b_ne hne
        simp only [Instr.findNow, Instr.sameNow, hv, hf]
        exact h1 _ hu hn
      · have : (Op.equal kt (.string s) e.key).run P w = .ok false w := by
          rw [hv]; show (Op.equalIn (9999 + 1) kt _ _).run P w = _
          rw [Op.equalIn]; simp [run_underlying hu, b_ne hne]
        rw [Instr.findAsking]
        simp [this, h2]
    · refine ⟨fun d hd hn => ?_, ?_⟩
      · rw [hu] at hd; injection hd with hd; subst hd; exact absurd rfl (hn _ _)
      · have : (Op.equal kt (.agg #[.int k a, .int m b]) e.key).run P w = .ok false w := by
          rw [hv]
          rcases hne with hne | ⟨rfl, hne⟩
          · exact eq_arr_ne hu he hi hs _ _ _ _ _ _ _ hne w
          · rw [eq_arr hu he hi hs]; simp [hne]
        rw [Instr.findAsking]
        simp [this, h2]
theorem find_some {kt : TypeId} {v : Value} {e0 : MapEntry} (hk : IsKq P kt v) (he0 : v = e0.key) : ∀ (l l2 : List MapEntry) (i : Nat), (∀ e ∈ l, Dif P kt v e.key) → ∀ (w : World),
    (∀ d, P.underlying kt = some d → (∀ n e, d ≠ .array n e) → Instr.findNow d v (l ++ e0 :: l2) i = some (some (i + l.length, e0.val))) ∧ (Instr.findAsking kt v (l ++ e0 :: l2) i).run P w = .ok (some (i + l.length, e0.val)) w
  | [], l2, i, _, w => by
    rcases hk with ⟨k0, h, k, a, rfl⟩ | ⟨h, s, rfl⟩ | ⟨e, k0, i', h, he, hi, hs, k, l, a, b, rfl⟩
    · refine ⟨fun d hd hn => ?_, ?_⟩
      · rw [h] at hd; injection hd with hd; subst hd
        simp [Instr.findNow, Instr.sameNow, ← he0, b_self]
      · have : (Op.equal kt (.int k a) e0.key).run P w = .ok true w := by
          rw [← he0]; show (Op.equalIn (9999 + 1) kt _ _).run P w = _
          rw [eq_int h]; simp
        rw [List.nil_append, Instr.findAsking]
        simp [this]
    · refine ⟨fun d hd hn => ?_, ?_⟩
      · rw [h] at hd; injection hd with hd; subst hd
        simp [Instr.findNow, Instr.sameNow, ← he0, b_self]
      · have : (Op.equal kt (.string s) e0.key).run P w = .ok true w := by
          rw [← he0]; show (Op.equalIn (9999 + 1) kt _ _).run P w = _
          rw [Op.equalIn]; simp [run_underlying h, b_self]
        rw [List.nil_append, Instr.findAsking]
        simp [this]
    · refine ⟨fun d hd hn => ?_, ?_⟩
      · rw [h] at hd; injection hd with hd; subst hd; exact absurd rfl (hn _ _)
      · have : (Op.equal kt (.agg #[.int k a, .int l b]) e0.key).run P w = .ok true w := by
          rw [← he0, eq_arr h he hi hs]; simp
        rw [List.nil_append, Instr.findAsking]
        simp [this]
  | e :: l, l2, i, h, w => by
    obtain ⟨h1, h2⟩ := find_some hk he0 l l2 (i + 1) (fun x hx => h x (by simp [hx])) w
    have hi1 : i + 1 + l.length = i + (e :: l).length := by simp; omega
    rw [hi1] at h1 h2
    rcases h e (by simp) with ⟨k0, hu, k, a, b, rfl, hv, hne⟩ | ⟨hu, s, t, rfl, hv, hne⟩ | ⟨e', k0, i', hu, he, hi, hs, k, m, m', a, b, a', b', rfl, hv, hne⟩
    · refine ⟨fun d hd hn => ?_, ?_⟩
      · rw [hu] at hd; injection hd with hd; subst hd
        have hf : (a == b) = false := by simpa using hne
        simp only [List.cons_append, Instr.findNow, Instr.sameNow, hv, if_true, hf]
        exact h1 _ hu hn
      · have : (Op.equal kt (.int k a) e.key).run P w = .ok false w := by
          rw [hv]; show (Op.equalIn (9999 + 1) kt _ _).run P w = _
          rw [eq_int hu]; simp [hne]
        rw [List.cons_append, Instr.findAsking]
        simp [this, h2]
    · refine ⟨fun d hd hn => ?_, ?_⟩
      · rw [hu] at hd; injection hd with hd; subst hd
        have hf : (s == t) = false := b_ne hne
        simp only [List.cons_append, Instr.findNow, Instr.sameNow, hv, hf]
        exact h1 _ hu hn
      · have : (Op.equal kt (.string s) e.key).run P w = .ok false w := by
          rw [hv]; show (Op.equalIn (9999 + 1) kt _ _).run P w = _
          rw [Op.equalIn]; simp [run_underlying hu, b_ne hne]
        rw [List.cons_append, Instr.findAsking]
        simp [this, h2]
    · refine ⟨fun d hd hn => ?_, ?_⟩
      · rw [hu] at hd; injection hd with hd; subst hd; exact absurd rfl (hn _ _)
      · have : (Op.equal kt (.agg #[.int k a, .int m b]) e.key).run P w = .ok false w := by
          rw [hv]
          rcases hne with hne | ⟨rfl, hne⟩
          · exact eq_arr_ne hu he hi hs _ _ _ _ _ _ _ hne w
          · rw [eq_arr hu he hi hs]; simp [hne]
        rw [List.cons_append, Instr.findAsking]
        simp [this, h2]
theorem run_find {kt : TypeId} {v : Value} {l : List MapEntry} {r : Option (Nat × Value)} (hk : IsKq P kt v)
    (h : (∀ d, P.underlying kt = some d → (∀ n e, d ≠ .array n e) → Instr.findNow d v l 0 = some r) ∧ (Instr.findAsking kt v l 0).run P w = .ok r w) : (Instr.findKey kt v l).run P w = .ok r w := by
  have key : ∀ d, P.underlying kt = some d → (Instr.findNow d v l 0 = some r ∨ Instr.findNow d v l 0 = none) → (Instr.findKey kt v l).run P w = .ok r w := fun d hd hh => by
    simp only [Instr.findKey, Sem.run_bind, run_underlying hd, Result.andThen_ok]
    rcases hh with hh | hh
    · simp [hh]
    · simp [hh, h.2]
  rcases hk with ⟨k0, hu, k, a, rfl⟩ | ⟨hu, s, rfl⟩ | ⟨e, k0, i, hu, he, hi, hs, k, m, a, b, rfl⟩
  · exact key _ hu (.inl (h.1 _ hu (by intro _ _ h; cases h)))
  · exact key _ hu (.inl (h.1 _ hu (by intro _ _ h; cases h)))
  · refine key _ hu ?_
    cases l with
    | nil =>
      have := h.2
      simp [Instr.findAsking] at this
      rw [← this]
      exact .inl rfl
    | cons x l => exact .inr rfl
end
section
variable {X : Nat → Value} {P : Program} {W : World} {Z : Nat → Option Obj} {ρ : Rho} {id : Nat} {w : World} {h : T AB}
variable {x y k v : AV} {vx vy kv vv : Value}
theorem findM_ok {kt : TypeId} {q : Kq} (K : KeyK P kt q) (hk : VR X ρ k kv) {F : Option (Nat × AV × Nat) → OR} {s : Sem Next} : ∀ {es : List MEnt} {r : List MapEntry} (pre : List MapEntry), MRs X ρ es r → (∀ e ∈ pre, Dif P kt kv e.key) →
    ((∀ e ∈ pre ++ r, Dif P kt kv e.key) → OpR X P W Z ρ id w s (F none)) →
    (∀ l e0 l2 a, pre ++ r = l ++ e0 :: l2 → (∀ e ∈ l, Dif P kt kv e.key) → kv = e0.key → VR X ρ a e0.val → OpR X P W Z ρ id w s (F (some (l.length, a, e0.born)))) →
    OpR X P W Z ρ id w s (findM q k es F pre.length)
  | [], r, pre, hm, hp, hn, _ => by
    have : r = [] := hm
    subst this
    exact hn (by simpa using hp)
  | e :: es, r, pre, ⟨x, r', hr, ⟨h1, h2, h3⟩, hm⟩, hp, hn, hs => by
    subst hr
    show OpR X P W Z ρ id w s (Tri.rec (motive := fun _ => OR) (findM q k es F (Nat.succ pre.length)) (F (some (pre.length, e.2.1, e.2.2))) .bad (q k e.1))
    cases hq : q k e.1 with
    | no =>
      have hd := key_no K hk h1 hq
      have := findM_ok K hk (F := F) (s := s) (pre ++ [x]) hm (by intro e he; rcases List.mem_append.1 he with he | he; exact hp e he; rw [List.mem_singleton.1 he]; exact hd)
        (fun hh => hn (by simpa using hh)) (fun l e0 l2 a he => hs l e0 l2 a (by simpa using he))
      simpa using this
    | yes =>
      obtain ⟨h4, _⟩ := key_yes K hk h1 hq
      have := hs pre x r' e.2.1 rfl hp h4 h2
      rw [← h3] at this
      exact this
    | un => exact trivial
theorem self_ok {kt : TypeId} {q : Kq} (K : KeyK P kt q) (hk : VR X ρ k kv) {r : OR} {s : Sem Next} (h : IsKq P kt kv → OpR X P W Z ρ id w s r) : OpR X P W Z ρ id w s (selfK q k r) := by
  unfold selfK
  cases hq : q k k with
  | yes => exact h (key_yes K hk hk hq).2
  | no => exact trivial
  | un => exact trivial
/-! ### maps in the heap -/
structure Maps (X : Nat → Value) (Z : Nat → Option Obj) (ρ : Rho) (w : World) (b : Nat) (es : List MEnt) (c B base tot : Nat) (ces : Array MapEntry) : Prop where
  rho : ρ b = some (B, base, tot)
  z : Z B = none
  heap : w.heap[B]? = some (.map ces c)
  ents : MRs X ρ es ces.toList
theorem HR.maps (H : HR X W Z ρ h.get w) {b : Nat} {es : List MEnt} {c : Nat} (hb : h.get b = some (.m es c)) {B base tot : Nat} (hρ : ρ b = some (B, base, tot)) : ∃ ces, Maps X Z ρ w b es c B base tot ces := by
  obtain ⟨B', base', tot', o, h1, h2, h3, ces, h4, h5⟩ := H.blk b _ hb
  rw [hρ] at h1; injection h1 with h1; injection h1 with e1 h1; injection h1 with e2 e3; subst e1; subst e2; subst e3
  exact ⟨ces, ⟨hρ, h2, h4 ▸ h3, h5⟩⟩
theorem turned_at (w : World) {B : Nat} {o0 : Obj} (hb : w.heap[B]? = some o0) (o : Obj) : Turned w { w with heap := w.heap.setIfInBounds B o } B o := by
  have hlt := (Array.getElem?_eq_some_iff.1 hb).1
  refine ⟨rfl, rfl, rfl, fun k hk => ?_, ?_⟩
  · simp only [Array.getElem?_setIfInBounds]
    rw [if_neg (by omega)]
  · simp [hlt]
theorem HR.turnMap (H : HR X W Z ρ h.get w) {b : Nat} {es : List MEnt} {c B base tot : Nat} {ces : Array MapEntry} (M : Maps X Z ρ w b es c B base tot ces) (hb : h.get b = some (.m es c)) {es' : List MEnt} {c' : Nat} {ces' : Array MapEntry} (hm : MRs X ρ es' ces'.toList) :
    HR X W Z ρ (h.set b (.m es' c')).get { w with heap := w.heap.setIfInBounds B (.map ces' c') } :=
  H.turn (b' := .m es' c') hb M.rho (turned_at w M.heap _) ⟨ces', rfl, hm⟩ set_get
theorem same_heap {w : World} {B : Nat} {o : Obj} (hb : w.heap[B]? = some o) : { w with heap := w.heap.setIfInBounds B o } = w := by
  have : w.heap.setIfInBounds B o = w.heap := by
    apply Array.ext_getElem?
    intro k
    rw [Array.getElem?_setIfInBounds]
    by_cases e : B = k
    · subst e
      have := (Array.getElem?_eq_some_iff.1 hb).1
      rw [if_pos rfl, if_pos this, hb]
    · rw [if_neg e]
  rw [this]
theorem MRs.append {es es' : List MEnt} : ∀ {r r' : List MapEntry}, MRs X ρ es r → MRs X ρ es' r' → MRs X ρ (es ++ es') (r ++ r') := by
  induction es with
  | nil => intro r r' h h'; rw [show r = [] from h]; exact h'
  | cons e es ih => intro r r' ⟨x, q, h1, h2, h3⟩ h'; subst h1; exact ⟨x, q ++ r', rfl, h2, ih h3 h'⟩
theorem MRs.len {es : List MEnt} : ∀ {r : List MapEntry}, MRs X ρ es r → r.length = es.length := by
  induction es with
  | nil => intro r h; rw [show r = [] from h]; rfl
  | cons e es ih => intro r ⟨x, q, h1, h2, h3⟩; subst h1; simp [ih h3]
theorem MRs.mod {k v : AV} (hk : VR X ρ k kv) (hv : VR X ρ v vv) : ∀ {es : List MEnt} {l l2 : List MapEntry} {e0 : MapEntry}, MRs X ρ es (l ++ e0 :: l2) → MRs X ρ (modM k v es l.length) (l ++ { e0 with key := kv, val := vv } :: l2)
  | [], l, l2, e0, h => by have h' : l ++ e0 :: l2 = [] := h; simp at h'
  | e :: es, [], l2, e0, ⟨x, q, h1, h2, h3⟩ => by
    simp only [List.nil_append] at h1
    injection h1 with h1 h4; subst h1; subst h4
    exact ⟨_, _, rfl, ⟨hk, hv, h2.2.2⟩, h3⟩
  | e :: es, y :: l, l2, e0, ⟨x, q, h1, h2, h3⟩ => by
    simp only [List.cons_append] at h1
    injection h1 with h1 h4; subst h1; subst h4
    exact ⟨_, _, rfl, h2, MRs.mod hk hv h3⟩
theorem MRs.del : ∀ {es : List MEnt} {l l2 : List MapEntry} {e0 : MapEntry}, MRs X ρ es (l ++ e0 :: l2) → MRs X ρ (delM es l.length) (l ++ l2)
  | [], l, l2, e0, h => by have h' : l ++ e0 :: l2 = [] := h; simp at h'
  | e :: es, [], l2, e0, ⟨x, q, h1, h2, h3⟩ => by
    simp only [List.nil_append] at h1
    injection h1 with h1 h4; subst h1; subst h4
    exact h3
  | e :: es, y :: l, l2, e0, ⟨x, q, h1, h2, h3⟩ => by
    simp only [List.cons_append] at h1
    injection h1 with h1 h4; subst h1; subst h4
    exact ⟨_, _, rfl, h2, MRs.del h3⟩
theorem VR_tup2 {a b : AV} {va vb : Value} (ha : VR X ρ a va) (hb : VR X ρ b vb) : VR X ρ (.tu [a, b]) (.tuple #[va, vb]) := ⟨_, rfl, VRs_cons.2 ⟨va, [vb], rfl, ha, VRs_cons.2 ⟨vb, [], rfl, hb, VRs_nil.2 rfl⟩⟩⟩
theorem look_ok (H : HR X W Z ρ h.get w) {t kt e : TypeId} {q : Kq} {i : TypeInfo} {z : Value} (ht : P.underlying t = some (.map kt e)) (K : KeyK P kt q) (hi : P.info? e = some i) (hz : i.zero = some z) (ok : Bool) (hx : VR X ρ x vx) (hk : VR X ρ k kv) :
    OpR X P W Z ρ id w (do pure (.value (← Instr.lookup t vx kv ok))) (lookA h q (ofVal z) ok x k) := by
  refine self_ok K hk fun hkq => ?_
  have hnone : ∀ es : Array MapEntry, (∀ e ∈ es.toList, Dif P kt kv e.key) → (vx = .map none ∧ es = #[] ∨ ∃ B c, vx = .map (some B) ∧ w.heap[B]? = some (.map es c)) → OpR X P W Z ρ id w (do pure (.value (← Instr.lookup t vx kv ok))) (lookV (ofVal z) ok none) := fun es hd hv => by
    have hf := run_find (w := w) hkq (find_none es.toList 0 hd w)
    refine val_ok (v := if ok then .tuple #[z, .bool false] else z) ?_ ?_
    · rcases hv with ⟨rfl, rfl⟩ | ⟨B, c, rfl, hB⟩
      · have hf' : (Instr.findKey kt kv []).run P w = .ok none w := hf
        simp [Instr.lookup, run_underlying ht, run_check hkq, hf', run_zero hi hz]
      · simp [Instr.lookup, run_underlying ht, run_check hkq, MapKept.run_getObj_map hB, hf, run_zero hi hz]
    · cases ok
      · exact VR_ofVal ρ z
      · exact VR_tup2 (VR_ofVal ρ z) rfl
  cases x with
  | mn =>
    cases hx
    exact hnone #[] (by intro e he; cases he) (.inl ⟨rfl, rfl⟩)
  | m b =>
    obtain ⟨B, base, tot, h1, rfl⟩ := hx
    refine mapAt_ok fun es c hb => ?_
    obtain ⟨ces, M⟩ := H.maps hb h1
    refine findM_ok K hk [] M.ents (by intro e he; cases he) (fun hd => hnone ces (by simpa using hd) (.inr ⟨B, c, rfl, M.heap⟩)) fun l e0 l2 a hl hd he ha => ?_
    rw [List.nil_append] at hl
    have hf := run_find (w := w) hkq (find_some hkq he l l2 0 hd w)
    rw [← hl] at hf
    refine val_ok (v := if ok then .tuple #[e0.val, .bool true] else e0.val) ?_ ?_
    · simp [Instr.lookup, run_underlying ht, run_check hkq, MapKept.run_getObj_map M.heap, hf]
    · cases ok
      · exact ha
      · exact VR_tup2 ha rfl
  | _ => exact trivial
theorem bits_self {kt : TypeId} (hk : IsKq P kt kv) : Instr.sameBits 10000 kv kv = true := by
  show Instr.sameBits (9999 + 1) kv kv = true
  rcases hk with ⟨k0, h, k, a, rfl⟩ | ⟨h, s, rfl⟩ | ⟨e, k0, i, h, he, hi, hs, k, l, a, b, rfl⟩
  · simp [Instr.sameBits]
  · simp [Instr.sameBits, b_self]
  · show Instr.sameBits (9998 + 1 + 1) _ _ = true
    simp [Instr.sameBits]
theorem run_stays {kt : TypeId} (hk : IsKq P kt kv) (w : World) : (Instr.keyThatStays kv kv).run P w = .ok kv w := by
  simp [Instr.keyThatStays, bits_self hk]
theorem at_mid (l l2 : List MapEntry) (e0 : MapEntry) (ces : Array MapEntry) (h : ces.toList = l ++ e0 :: l2) : ces[l.length]? = some e0 := by
  rw [← Array.getElem?_toList, h]
  simp
theorem mod_mid (l l2 : List MapEntry) (e0 : MapEntry) (ces : Array MapEntry) (h : ces.toList = l ++ e0 :: l2) (f : MapEntry → MapEntry) : (ces.modify l.length f).toList = l ++ f e0 :: l2 := by
  rw [Array.toList_modify, h]
  apply List.ext_getElem?
  intro k
  rw [List.getElem?_modify]
  by_cases hk : l.length = k
  · subst hk; simp
  · simp only [if_neg hk, List.getElem?_append, List.getElem?_cons]
    by_cases h2 : k < l.length
    · simp [h2]
    · rw [if_neg h2, if_neg h2, if_neg (by omega), if_neg (by omega)]
      simp
theorem mset_ok (H : HR X W Z ρ h.get w) {t kt e : TypeId} {q : Kq} (ht : P.underlying t = some (.map kt e)) (K : KeyK P kt q) (hx : VR X ρ x vx) (hk : VR X ρ k kv) (hv : VR X ρ v vv) :
    OpR X P W Z ρ id w (do Instr.mapUpdate t vx kv vv; pure .skip) (msetA h q x k v) := by
  refine self_ok K hk fun hkq => ?_
  cases x with
  | m b =>
    obtain ⟨B, base, tot, h1, rfl⟩ := hx
    refine mapAt_ok fun es c hb => ?_
    obtain ⟨ces, M⟩ := H.maps hb h1
    refine findM_ok K hk [] M.ents (by intro e he; cases he) (fun hd => ?_) fun l e0 l2 a hl hd he ha => ?_
    · have hf := run_find (w := w) hkq (find_none ces.toList 0 (by simpa using hd) w)
      refine unit_ok (w' := _) ?_ (H.turnMap M hb (ces' := ces.push { key := kv, val := vv, born := c }) (c' := c + 1) (es' := appL es [(k, v, c)]) ?_) trivial
      · simp [Instr.mapUpdate, run_underlying ht, run_check hkq, MapKept.run_getObj_map M.heap, hf, MapKept.run_setObj_map _ M.heap]
      · rw [appL_eq, Array.toList_push]
        exact M.ents.append ⟨_, [], rfl, ⟨hk, hv, rfl⟩, rfl⟩
    · rw [List.nil_append] at hl
      have hf := run_find (w := w) hkq (find_some hkq he l l2 0 hd w)
      rw [← hl, Nat.zero_add] at hf
      have hat := at_mid l l2 e0 ces hl
      have hst : (Instr.keyThatStays e0.key kv).run P w = .ok kv w := by rw [← he]; exact run_stays hkq w
      refine unit_ok (w' := _) ?_ (H.turnMap M hb (ces' := ces.modify l.length fun e => { e with key := kv, val := vv }) (c' := c) (es' := modM k v es l.length) ?_) trivial
      · simp [Instr.mapUpdate, run_underlying ht, run_check hkq, MapKept.run_getObj_map M.heap, hf, hat, hst, MapKept.run_setObj_map _ M.heap]
      · rw [mod_mid l l2 e0 ces hl]
        exact MRs.mod hk hv (hl ▸ M.ents)
  | _ => exact trivial
theorem ment_ok (H : HR X W Z ρ h.get w) {t kt e : TypeId} {q : Kq} {i : TypeInfo} {z : Value} (ht : P.underlying t = some (.map kt e)) (K : KeyK P kt q) (hi : P.info? e = some i) (hz : i.zero = some z) (hx : VR X ρ x vx) (hk : VR X ρ k kv) :
    OpR X P W Z ρ id w (do pure (.value (← Instr.mapEntry t vx kv))) (mentA h q (ofVal z) x k) := by
  refine self_ok K hk fun hkq => ?_
  cases x with
  | m b =>
    obtain ⟨B, base, tot, h1, rfl⟩ := hx
    refine mapAt_ok fun es c hb => ?_
    obtain ⟨ces, M⟩ := H.maps hb h1
    refine findM_ok K hk [] M.ents (by intro e he; cases he) (fun hd => ?_) fun l e0 l2 a hl hd he ha => ?_
    · have hf := run_find (w := w) hkq (find_none ces.toList 0 (by simpa using hd) w)
      refine valh_ok (v := .tuple #[z, goInt c]) (w' := _) ?_ (H.turnMap M hb (ces' := ces.push { key := kv, val := z, born := c }) (c' := c + 1) (es' := appL es [(k, ofVal z, c)]) ?_) (VR_tup2 (VR_ofVal ρ z) rfl)
      · simp [Instr.mapEntry, run_underlying ht, run_check hkq, MapKept.run_getObj_map M.heap, hf, run_zero hi hz, MapKept.run_setObj_map _ M.heap]
      · rw [appL_eq, Array.toList_push]
        exact M.ents.append ⟨_, [], rfl, ⟨hk, VR_ofVal ρ z, rfl⟩, rfl⟩
    · rw [List.nil_append] at hl
      have hf := run_find (w := w) hkq (find_some hkq he l l2 0 hd w)
      rw [← hl, Nat.zero_add] at hf
      have hat := at_mid l l2 e0 ces hl
      have hst : (Instr.keyThatStays e0.key kv).run P w = .ok kv w := by rw [← he]; exact run_stays hkq w
      have hm := mod_mid l l2 e0 ces hl fun e => { e with key := kv }
      refine valh_ok (v := .tuple #[e0.val, goInt e0.born]) (w' := _) ?_ (H.turnMap M hb (ces' := ces.modify l.length fun e => { e with key := kv }) (c' := c) (es' := modM k a es l.length) ?_) (VR_tup2 ha rfl)
      · simp [Instr.mapEntry, run_underlying ht, run_check hkq, MapKept.run_getObj_map M.heap, hf, hat, hst, MapKept.run_setObj_map _ M.heap]
      · rw [hm]
        exact MRs.mod hk ha (hl ▸ M.ents)
  | _ => exact trivial
theorem del_ok (H : HR X W Z ρ h.get w) {ts : Array TypeId} {t kt e ty : TypeId} {q : Kq} (h0 : ts[0]? = some t) (ht : P.underlying t = some (.map kt e)) (K : KeyK P kt q) (hx : VR X ρ x vx) (hk : VR X ρ k kv) :
    OpR X P W Z ρ id w (do pure (.value (← Builtin.delete_ ts ty #[vx, kv]))) (delA h q x k) := by
  refine self_ok K hk fun hkq => ?_
  cases x with
  | m b =>
    obtain ⟨B, base, tot, h1, rfl⟩ := hx
    refine mapAt_ok fun es c hb => ?_
    obtain ⟨ces, M⟩ := H.maps hb h1
    refine findM_ok K hk [] M.ents (by intro e he; cases he) (fun hd => ?_) fun l e0 l2 a hl hd he ha => ?_
    · have hf := run_find (w := w) hkq (find_none ces.toList 0 (by simpa using hd) w)
      refine valh_ok (v := .tuple #[]) (w' := w) ?_ H ⟨#[], rfl, VRs_nil.2 rfl⟩
      simp [Builtin.delete_, h0, run_underlying ht, run_check hkq, MapKept.run_getObj_map M.heap, hf, MapKept.run_setObj_map _ M.heap, same_heap M.heap]
    · rw [List.nil_append] at hl
      have hf := run_find (w := w) hkq (find_some hkq he l l2 0 hd w)
      rw [← hl, Nat.zero_add] at hf
      refine valh_ok (v := .tuple #[]) (w' := _) ?_ (H.turnMap M hb (ces' := ces.eraseIdxIfInBounds l.length) (c' := c) (es' := delM es l.length) ?_) ⟨#[], rfl, VRs_nil.2 rfl⟩
      · simp [Builtin.delete_, h0, run_underlying ht, run_check hkq, MapKept.run_getObj_map M.heap, hf, MapKept.run_setObj_map _ M.heap]
      · have : (ces.eraseIdxIfInBounds l.length).toList = l ++ l2 := by
          have h3 : l.length < ces.size := by rw [← Array.length_toList, hl]; simp
          rw [Array.eraseIdxIfInBounds_eq, dif_pos h3, Array.toList_eraseIdx, hl]
          rw [List.eraseIdx_append_of_length_le (Nat.le_refl _)]
          simp
        rw [this]
        exact MRs.del (hl ▸ M.ents)
  | _ => exact trivial
theorem clr_ok (H : HR X W Z ρ h.get w) {ts : Array TypeId} {t kt e ty : TypeId} (h0 : ts[0]? = some t) (ht : P.underlying t = some (.map kt e)) (hx : VR X ρ x vx) :
    OpR X P W Z ρ id w (do pure (.value (← Builtin.clear_ ts ty #[vx]))) (clrA h x) := by
  cases x with
  | m b =>
    obtain ⟨B, base, tot, h1, rfl⟩ := hx
    refine mapAt_ok fun es c hb => ?_
    obtain ⟨ces, M⟩ := H.maps hb h1
    refine valh_ok (v := .tuple #[]) (w' := _) ?_ (H.turnMap M hb (ces' := #[]) (c' := c) (es' := []) rfl) ⟨#[], rfl, VRs_nil.2 rfl⟩
    simp [Builtin.clear_, h0, run_underlying ht, MapKept.run_getObj_map M.heap, MapKept.run_setObj_map _ M.heap]
  | _ => exact trivial
theorem len_mok (H : HR X W Z ρ h.get w) {ts : Array TypeId} {t kt e ty : TypeId} (h0 : ts[0]? = some t) (ht : P.underlying t = some (.map kt e)) (hx : VR X ρ x vx) : OpR X P W Z ρ id w (do pure (.value (← Builtin.len_ ts ty #[vx]))) (lenMA h x) := by
  cases x with
  | mn =>
    cases hx
    exact val_ok (v := goInt (0 : Nat)) (by simp [Builtin.len_, h0, run_underlying ht]) rfl
  | m b =>
    obtain ⟨B, base, tot, h1, rfl⟩ := hx
    refine mapAt_ok fun es c hb => ?_
    obtain ⟨ces, M⟩ := H.maps hb h1
    refine val_ok (v := goInt (ces.size : Nat)) (by simp [Builtin.len_, h0, run_underlying ht, MapKept.run_getObj_map M.heap]) ?_
    have := M.ents.len
    rw [lenL_eq, ← this]
    simp [VR, goInt]
  | _ => exact trivial
end
section
variable {X : Nat → Value} {P : Program} {W : World} {Z : Nat → Option Obj} {ρ : Rho} {id : Nat} {w : World} {h : T AB}
variable {x y k v : AV} {vx vy kv vv : Value}
theorem MRs.find_born {v : AV} (hv : VR X ρ v vv) {born : Nat} : ∀ {es : List MEnt} {r : List MapEntry}, MRs X ρ es r → hasB born es = true → ∃ i, r.findIdx? (fun e => (e.born : Int) == (born : Int)) = some i ∧ MRs X ρ (modB born v es) (r.modify i fun e => { e with val := vv })
  | [], r, hm, hb => by cases hb
  | e :: es, r, ⟨x, q, h1, h2, h3⟩, hb => by
    subst h1
    have hb' : (Bool.rec (hasB born es) true (Nat.beq e.2.2 born) : Bool) = true := hb
    show ∃ i, _ ∧ MRs X ρ (Bool.rec (e :: modB born v es) ((e.1, v, e.2.2) :: es) (Nat.beq e.2.2 born)) _
    cases hc : Nat.beq e.2.2 born
    · rw [hc] at hb'
      have hne := Nat.ne_of_beq_eq_false hc
      obtain ⟨i, h4, h5⟩ := MRs.find_born hv h3 hb'
      refine ⟨i + 1, ?_, ?_⟩
      · have hx : ((x.born : Int) == (born : Int)) = false := by rw [← h2.2.2]; simp; omega
        rw [List.findIdx?_cons]
        simp [hx, h4]
      · rw [List.modify_succ_cons]
        exact ⟨x, _, rfl, h2, h5⟩
    · have he := Nat.eq_of_beq_eq_true hc
      refine ⟨0, ?_, ?_⟩
      · have hx : ((x.born : Int) == (born : Int)) = true := by rw [← h2.2.2, he]; simp
        rw [List.findIdx?_cons]
        simp [hx]
      · rw [List.modify_zero_cons]
        exact ⟨_, _, rfl, ⟨h2.1, hv, h2.2.2⟩, h3⟩
theorem mest_ok (H : HR X W Z ρ h.get w) {t : TypeId} (hx : VR X ρ x vx) (hk : VR X ρ k kv) (hv : VR X ρ v vv) :
    OpR X P W Z ρ id w (do Instr.entryStore t vx kv vv; pure .skip) (mestA h x k v) := by
  cases x with
  | m b =>
    obtain ⟨B, base, tot, h1, rfl⟩ := hx
    refine natK_ok fun kk born e => mapAt_ok fun es c hb => iff_ok fun hh => ?_
    subst e
    cases hk
    obtain ⟨ces, M⟩ := H.maps hb h1
    obtain ⟨i, h2, h3⟩ := M.ents.find_born hv hh
    refine unit_ok (w' := _) ?_ (H.turnMap M hb (ces' := ces.modify i fun e => { e with val := vv }) (c' := c) (es' := modB born v es) ?_) trivial
    · have h2' : ces.findIdx? (fun e => (e.born : Int) == (born : Int)) = some i := by
        rw [← h2]
        obtain ⟨l⟩ := ces
        exact List.findIdx?_toArray _ _
      simp [Instr.entryStore, MapKept.run_getObj_map M.heap, run_asInt, h2', MapKept.run_setObj_map _ M.heap]
    · rw [Array.toList_modify]; exact h3
  | _ => exact trivial
/-! ### a range over a map -/
theorem itAt_ok {b : Nat} {K : Option Nat → Nat → List Nat → Nat → OR} {s : Sem Next} (hk : ∀ m a c d, h.get b = some (.it m a c d) → OpR X P W Z ρ id w s (K m a c d)) : OpR X P W Z ρ id w s (itAt h b K) := by
  unfold itAt
  cases e : h.get b with
  | none => exact trivial
  | some x => cases x with
    | it m a c d => exact hk m a c d e
    | _ => exact trivial
theorem rng_ok (H : HR X W Z ρ h.get w) (hid : ρ id = none) {t kt e : TypeId} (ht : P.underlying t = some (.map kt e)) (hx : VR X ρ x vx) : OpR X P W Z ρ id w (do pure (.value (← Instr.range t vx))) (rngA h id x) := by
  have key : ∀ (o : Obj) (b : AB), BO X (upd ρ id (w.heap.size, 0, 0)) b o 0 0 → (Instr.range t vx).run P w = .ok (.pointer (some ⟨w.heap.size, 0, none⟩)) { w with heap := w.heap.push o } → OpR X P W Z ρ id w (do pure (.value (← Instr.range t vx))) (.h (.p id 0) (h.new id b)) := fun o b hb hr =>
    alloch_ok hr (Ext.upd hid _) upd_ne (hr_alloc H (grown_new w o) hid hb) (p_new 0)
  cases x with
  | mn =>
    cases hx
    exact key (.mapIter none 0 #[] 0) _ ⟨none, rfl, rfl, rfl⟩ (by simp [Instr.range, run_underlying ht, newObj, Sem.run])
  | m b =>
    obtain ⟨B, base, tot, h1, rfl⟩ := hx
    refine mapAt_ok fun es c hb => ?_
    obtain ⟨ces, M⟩ := H.maps hb h1
    exact key (.mapIter (some B) c #[] c) _ ⟨some B, rfl, ⟨B, base, tot, Ext.upd hid _ _ _ h1, rfl⟩, rfl⟩ (by simp [Instr.range, run_underlying ht, MapKept.run_getObj_map M.heap, newObj, Sem.run])
  | _ => exact trivial
theorem run_getObj_it {B : Nat} {m : Option Nat} {s l : Nat} {sn : Array Nat} (hb : w.heap[B]? = some (.mapIter m s sn l)) : (getObj B).run P w = .ok (.mapIter m s sn l) w := by simp [getObj, Sem.run, hb]
theorem run_setObj_it {B : Nat} {m : Option Nat} {s l : Nat} {sn : Array Nat} (o : Obj) (hb : w.heap[B]? = some (.mapIter m s sn l)) : (setObj B o).run P w = .ok () { w with heap := w.heap.setIfInBounds B o } := by simp [setObj, Sem.run, hb]
theorem memN_eq (n : Nat) : ∀ (l : List Nat), memN n l = l.contains n
  | [] => rfl
  | x :: l => by
    show (Bool.rec (memN n l) true (Nat.beq x n) : Bool) = _
    rw [List.contains_cons, ← memN_eq n l]
    cases hc : Nat.beq x n
    · have := Nat.ne_of_beq_eq_false hc
      simp [show (n == x) = false by simp; omega]
    · have := Nat.eq_of_beq_eq_true hc
      subst this
      simp
theorem MRs.left (seen : List Nat) : ∀ {es : List MEnt} {r : List MapEntry}, MRs X ρ es r → MRs X ρ (leftM seen es) (r.filter fun e => !seen.toArray.contains e.born)
  | [], r, hm => by rw [show r = [] from hm]; rfl
  | e :: es, r, ⟨x, q, h1, h2, h3⟩ => by
    subst h1
    show MRs X ρ (Bool.rec (e :: leftM seen es) (leftM seen es) (memN e.2.2 seen)) _
    rw [memN_eq, h2.2.2]
    have hc : seen.toArray.contains x.born = seen.contains x.born := by simp
    cases hs : seen.contains x.born
    · rw [List.filter_cons_of_pos (by rw [hc, hs]; rfl)]
      exact ⟨x, _, rfl, h2, MRs.left seen h3⟩
    · rw [List.filter_cons_of_neg (by rw [hc, hs]; simp)]
      exact MRs.left seen h3
theorem MRs.older (last : Nat) : ∀ {es : List MEnt} {r : List MapEntry}, MRs X ρ es r → olderM last es = true → ∃ e ∈ r, e.born < last
  | [], r, _, hb => by cases hb
  | e :: es, r, ⟨x, q, h1, h2, h3⟩, hb => by
    subst h1
    have hb' : (Bool.rec (olderM last es) true (Nat.blt e.2.2 last) : Bool) = true := hb
    cases hc : Nat.blt e.2.2 last
    · rw [hc] at hb'
      obtain ⟨y, hy, hl⟩ := MRs.older last h3 hb'
      exact ⟨y, by simp [hy], hl⟩
    · have : e.2.2 < last := Nat.le_of_ble_eq_true hc
      exact ⟨x, by simp, by rw [← h2.2.2]; exact this⟩
theorem isNil_eq {α : Type} (l : List α) : isNil l = l.isEmpty := by cases l <;> rfl
theorem nxt_ok (H : HR X W Z ρ h.get w) {ty : TypeId} (hx : VR X ρ x vx) : OpR X P W Z ρ id w (do pure (.value (← Instr.next vx false ty))) (nxtA h x) := by
  cases x with
  | p r o =>
    obtain ⟨B, base, tot, h1, rfl⟩ := hx
    refine iff_ok fun ho => ?_
    have ho := Nat.eq_of_beq_eq_true ho
    subst ho
    refine itAt_ok fun m since seen last hr => ?_
    obtain ⟨B', base', tot', ob, g1, g2, g3, m', g4, g5, g6⟩ := H.blk r _ hr
    rw [h1] at g1; injection g1 with g1; injection g1 with e1 g1; injection g1 with e2 e3; subst e1; subst e2; subst e3
    subst g4; subst g6
    cases m with
    | none =>
      cases (show m' = none from g5)
      refine valh_ok (v := .tuple #[.bool false]) (w' := w) ?_ H ⟨_, rfl, VRs_cons.2 ⟨_, [], rfl, rfl, VRs_nil.2 rfl⟩⟩
      simp [Instr.next, run_getObj_it g3]
    | some b =>
      obtain ⟨Bm, bm, tm, g7, rfl⟩ := g5
      refine mapAt_ok fun es clock hb => ?_
      obtain ⟨ces, M⟩ := H.maps hb g7
      have hl := M.ents.left seen
      have hguard : (isNil seen || isNil es || olderM last es) = true → ((!(seen.toArray).isEmpty && !ces.isEmpty && ces.all (fun e => decide (e.born ≥ last))) = false) := fun hh => by
        rcases Bool.or_eq_true _ _ ▸ hh with hh | hh
        · rcases Bool.or_eq_true _ _ ▸ hh with hh | hh
          · rw [isNil_eq] at hh
            cases seen with
            | nil => rfl
            | cons _ _ => cases hh
          · rw [isNil_eq] at hh
            have : es = [] := by cases es with | nil => rfl | cons _ _ => cases hh
            subst this
            have hce : ces.toList = [] := M.ents
            have : ces = #[] := by cases ces; simpa using hce
            subst this
            simp
        · obtain ⟨y, hy, hlt⟩ := M.ents.older last hh
          have : ces.all (fun e => decide (e.born ≥ last)) = false := by
            rw [Bool.eq_false_iff]
            intro hall
            rw [Array.all_eq_true'] at hall
            have := hall y (by simpa using hy)
            simp at this
            omega
          rw [this]
          simp
      unfold nxtV
      cases hlm : leftM seen es with
      | nil =>
        rw [hlm] at hl
        refine iff_ok fun hh => ?_
        have hg := hguard hh
        have hl' : ces.toList.filter (fun e => !seen.toArray.contains e.born) = [] := hl
        have hle : ces.filter (fun e => !seen.toArray.contains e.born) = #[] := by
          have : (ces.filter (fun e => !seen.toArray.contains e.born)).toList = [] := by rw [Array.toList_filter]; exact hl'
          cases hcc : ces.filter (fun e => !seen.toArray.contains e.born); rw [hcc] at this; simpa using this
        refine valh_ok (v := .tuple #[.bool false]) (w' := w) ?_ H ⟨_, rfl, VRs_cons.2 ⟨_, [], rfl, rfl, VRs_nil.2 rfl⟩⟩
        simp only [Instr.next, Sem.run_bind, run_getObj_it g3, Result.andThen_ok, MapKept.run_getObj_map M.heap, hg, hle]
        simp [Question.forced]
      | cons e rest =>
        cases rest with
        | cons _ _ => exact trivial
        | nil =>
          rw [hlm] at hl
          refine iff_ok fun hh => ?_
          rw [Bool.and_eq_true] at hh
          obtain ⟨hb1, hb2⟩ := hh
          have hb1 : e.2.2 < since := Nat.le_of_ble_eq_true hb1
          have hg := hguard (by rcases Bool.or_eq_true _ _ ▸ hb2 with hq | hq <;> simp [hq])
          obtain ⟨x, q, hl', hxe, hq⟩ := hl
          have hq' : q = [] := hq
          subst hq'
          have hle : ces.filter (fun e => !seen.toArray.contains e.born) = #[x] := by
            have : (ces.filter (fun e => !seen.toArray.contains e.born)).toList = [x] := by rw [Array.toList_filter]; exact hl'
            cases hcc : ces.filter (fun e => !seen.toArray.contains e.born); rw [hcc] at this; simpa using this
          have hb3 : x.born < since := by rw [← hxe.2.2]; exact hb1
          refine valh_ok (v := .tuple #[.bool true, x.key, x.val]) (w' := { w with heap := w.heap.setIfInBounds B (.mapIter (some Bm) since (seen.toArray.push x.born) clock) }) ?_ ?_ ⟨_, rfl, VRs_cons.2 ⟨_, _, rfl, rfl, VRs_cons.2 ⟨_, _, rfl, hxe.1, VRs_cons.2 ⟨_, [], rfl, hxe.2.1, VRs_nil.2 rfl⟩⟩⟩⟩
          · simp only [Instr.next, Sem.run_bind, run_getObj_it g3, Result.andThen_ok, MapKept.run_getObj_map M.heap, hg, hle]
            simp [Question.forced, hb3, run_setObj_it _ g3]
          · refine H.turn (b' := .it (some b) since (appL seen [e.2.2]) clock) hr h1 (turned_at w g3 _) ⟨some Bm, ?_, ⟨Bm, bm, tm, g7, rfl⟩, rfl⟩ set_get
            rw [appL_eq, hxe.2.2]
            simp
  | _ => exact trivial
theorem lastN_eq : ∀ (l : List Nat), lastN l = l.getLast?
  | [] => rfl
  | [x] => rfl
  | x :: y :: l => by rw [lastN, lastN_eq (y :: l)]; simp; intro h; cases h
theorem MRs.entOk {born : Nat} {s : Sem Next} : ∀ {es : List MEnt} {r : List MapEntry}, MRs X ρ es r → (∀ (e : MEnt) (x : MapEntry), r.find? (fun e => e.born == born) = some x → ME X ρ e x → OpR X P W Z ρ id w s (.v (.tu [e.1, e.2.1]))) → OpR X P W Z ρ id w s (entB born es)
  | [], r, _, _ => trivial
  | e :: es, r, ⟨x, q, h1, h2, h3⟩, hk => by
    subst h1
    show OpR X P W Z ρ id w s (Bool.rec (entB born es) (.v (.tu [e.1, e.2.1])) (Nat.beq e.2.2 born))
    cases hc : Nat.beq e.2.2 born
    · have hne := Nat.ne_of_beq_eq_false hc
      refine MRs.entOk h3 fun e' y hy he => hk e' y ?_ he
      rw [List.find?_cons_of_neg (by rw [← h2.2.2]; simpa using hne)]
      exact hy
    · have he := Nat.eq_of_beq_eq_true hc
      exact hk e x (by rw [List.find?_cons_of_pos (by rw [← h2.2.2]; simpa using he)]) h2
theorem ent_ok (H : HR X W Z ρ h.get w) (hx : VR X ρ x vx) : OpR X P W Z ρ id w (do pure (.value (← Instr.entry vx))) (entA h x) := by
  cases x with
  | p r o =>
    obtain ⟨B, base, tot, h1, rfl⟩ := hx
    refine iff_ok fun ho => ?_
    have ho := Nat.eq_of_beq_eq_true ho
    subst ho
    refine itAt_ok fun m since seen stepped hr => ?_
    obtain ⟨B', base', tot', ob, g1, g2, g3, m', g4, g5, g6⟩ := H.blk r _ hr
    rw [h1] at g1; injection g1 with g1; injection g1 with e1 g1; injection g1 with e2 e3; subst e1; subst e2; subst e3
    subst g4; subst g6
    cases m with
    | none => exact trivial
    | some b =>
      obtain ⟨Bm, bm, tm, g7, rfl⟩ := g5
      refine mapAt_ok fun es clock hb => ?_
      obtain ⟨ces, M⟩ := H.maps hb g7
      rw [lastN_eq]
      cases hls : seen.getLast? with
      | none => exact trivial
      | some born =>
        refine iff_ok fun hc => ?_
        have hc := Nat.eq_of_beq_eq_true hc
        subst hc
        refine M.ents.entOk fun e x hf he => ?_
        refine val_ok (v := .tuple #[x.key, x.val]) ?_ (VR_tup2 he.1 he.2.1)
        have hbk : seen.toArray.back? = some born := by simpa using hls
        have hf' : ces.find? (fun e => e.born == born) = some x := by rw [← hf]; simp
        simp [Instr.entry, run_getObj_it g3, hls, MapKept.run_getObj_map M.heap, hf']
  | _ => exact trivial
end
section
variable {X : Nat → Value} {P : Program} {W : World} {Z : Nat → Option Obj} {ρ : Rho} {id : Nat} {w : World} {h : T AB}
variable {x y k v : AV} {vx vy kv vv : Value}
theorem mkfn_ok {fn : Fn} {l m : List AV} {a b : Array Value} (ha : VRs X ρ l a.toList) (hb : VRs X ρ m b.toList) : OpR X P W Z ρ id w (do pure (.value (← Instr.makeFunc fn a b))) (.v (.f fn l m)) :=
  val_ok (v := .func fn a b) rfl ⟨a, b, rfl, ha, hb⟩
/-- a call, run -/
def callS (a : Act) (c : Call) (ty : TypeId) : Sem Next := do let d ← resolve a.eval c ty; invoke d.target d.args
theorem call_ok {a : Act} {c : Call} {ty : TypeId} {f : Nat} {xs : List AV} (hc : c.callee = .value (.func f)) (hx : VRs X ρ xs (c.args.toList.map a.eval)) : OpR X P W Z ρ id w (callS a c ty) (.c f xs) := by
  refine ⟨c.args.map a.eval, ?_, by simpa using hx⟩
  simp [callS, resolve, hc, Act.eval, Deferred.ofValue, invoke]
theorem callv_ok {a : Act} {c : Call} {ty : TypeId} {o : Operand} {xs : List AV} (hc : c.callee = .value o) (hv : VR X ρ v (a.eval o)) (hx : VRs X ρ xs (c.args.toList.map a.eval)) : OpR X P W Z ρ id w (callS a c ty) (callvA v xs) := by
  cases v with
  | f fn l m =>
    obtain ⟨f, cp, he, h1, h2⟩ := hv
    cases fn with
    | func n =>
      refine ⟨f ++ c.args.map a.eval ++ cp, ?_, ?_⟩
      · simp [callS, resolve, hc, he, Deferred.ofValue, invoke]
      · rw [appL_eq, appL_eq]
        simpa using h1.append (hx.append h2)
    | _ => exact trivial
  | _ => exact trivial
theorem invL_ok {t : Nat} {K : Nat → Option Nat → OR} {s : Sem Next} : ∀ {ms : List (Nat × Nat × Option Nat)}, (∀ f n, (t, f, n) ∈ ms → OpR X P W Z ρ id w s (K f n)) → OpR X P W Z ρ id w s (invL t ms K)
  | [], _ => trivial
  | m :: ms, hk => by
    show OpR X P W Z ρ id w s (Bool.rec (invL t ms K) (K m.2.1 m.2.2) (Nat.beq t m.1))
    cases hc : Nat.beq t m.1
    · exact invL_ok fun f n hm => hk f n (by simp [hm])
    · have := Nat.eq_of_beq_eq_true hc
      exact hk _ _ (by rw [this]; simp)
/-- where a method of a type lies -/
def MethR (P : Program) (name : String) (t f : Nat) (n : Option Nat) : Prop :=
  ∃ i m, P.info? t = some i ∧ i.methods.find? (·.name == name) = some m ∧ m.path.isEmpty = true ∧
    match n with
    | none => (∃ d, P.underlying t = some d ∧ ((m.func = some (f, true) ∧ ∃ e, d = .pointer e) ∨ (m.func = some (f, false) ∧ ∀ e, d ≠ .pointer e)))
    | some n => ∃ e, P.underlying t = some (.pointer e) ∧ m.func = some (f, false) ∧ ((aggT P e = some true ∧ n = sizeT P e + 1) ∨ (aggT P e = some false ∧ n = 0))
theorem mem_methods {name : String} {t f : Nat} {n : Option Nat} (h : (t, f, n) ∈ methods P name) : MethR P name t f n := by
  unfold methods at h
  rw [List.mem_filterMap] at h
  obtain ⟨t', _, h⟩ := h
  unfold methodAt at h
  cases hi : P.info? t' with
  | none => rw [hi] at h; simp at h
  | some i =>
    rw [hi] at h
    simp only at h
    cases hm : i.methods.find? (·.name == name) with
    | none => rw [hm] at h; simp at h
    | some m =>
      rw [hm] at h
      simp only at h
      cases hp : m.path.isEmpty with
      | false => rw [hp] at h; simp at h
      | true =>
        rw [hp] at h
        simp only [cond_true] at h
        split at h
        · injection h with h; injection h with h1 h2; injection h2 with h2 h3; subst h1; subst h2; subst h3
          rename_i e hf hu
          exact ⟨i, m, hi, hm, hp, _, hu, .inl ⟨hf, _, rfl⟩⟩
        · rename_i e hf hu
          split at h
          · injection h with h; injection h with h1 h2; injection h2 with h2 h3; subst h1; subst h2; subst h3
            exact ⟨i, m, hi, hm, hp, _, hu, hf, .inl ⟨by assumption, rfl⟩⟩
          · injection h with h; injection h with h1 h2; injection h2 with h2 h3; subst h1; subst h2; subst h3
            exact ⟨i, m, hi, hm, hp, _, hu, hf, .inr ⟨by assumption, rfl⟩⟩
          · cases h
        · injection h with h; injection h with h1 h2; injection h2 with h2 h3; subst h1; subst h2; subst h3
          rename_i d hne hf hu
          exact ⟨i, m, hi, hm, hp, _, hu, .inr ⟨hf, fun e he => hne e he⟩⟩
        · cases h
theorem run_method {name : String} {t f : Nat} (hm : MethR P name t f none) (v : Value) (k : Nat) (w : World) : (method (k + 1) t v name).run P w = .ok (f, v) w := by
  obtain ⟨i, m, hi, hf, hp, d, hu, h⟩ := hm
  have hpl : m.path.toList = [] := by simpa using hp
  have hti : (typeInfo t).run P w = .ok i w := by simp [typeInfo, hi]
  rw [method]
  rcases h with ⟨hfn, e, rfl⟩ | ⟨hfn, hne⟩
  · simp [hti, hf, hpl, follow, hfn, receiverAt, run_underlying hu, Place.get]
  · simp only [Sem.run_bind, hti, Result.andThen_ok, hf, hpl, follow, Sem.run_pure, hfn, receiverAt, run_underlying hu]
    cases d <;> first | (exact absurd rfl (hne _)) | simp [Place.get]
theorem run_nilchk (ts : Array TypeId) (ty : TypeId) (a : Addr) (s m : ByteArray) : Builtin.ssaWrapNilChk_ ts ty #[.pointer (some a), .string s, .string m] = pure (.pointer (some a)) := rfl
theorem run_methodN (H : HR X W Z ρ h.get w) {name : String} {t f n : Nat} (hm : MethR P name t f (some n)) {b o : Nat} {vs : List AV} {B base tot : Nat} (hρ : ρ b = some (B, base, tot)) (hb : h.get b = some (.c vs)) (k : Nat) {x : AV} (hr : ∃ K : AV → OR, recvK vs o n K = K x ∧ ((n = 0 ∧ vs[o]? = some x) ∨ ∃ m, n = m + 1 ∧ o + m ≤ vs.length ∧ x = .ag ((vs.drop o).take m))) :
    ∃ r : Value, (method (k + 1) t (.pointer (some ⟨B, base + o, none⟩)) name).run P w = .ok (f, r) w ∧ VR X ρ x r := by
  obtain ⟨i, m, hi, hf, hp, e, hu, hfn, ha⟩ := hm
  have hpl : m.path.toList = [] := by simpa using hp
  have hti : (typeInfo t).run P w = .ok i w := by simp [typeInfo, hi]
  obtain ⟨cs, E, fz, C⟩ := H.cells hb hρ
  have key : ∀ r, (loadVar e ⟨B, base + o, none⟩).run P w = .ok r w → (method (k + 1) t (.pointer (some ⟨B, base + o, none⟩)) name).run P w = .ok (f, r) w := fun r hlv => by
    rw [method]
    simp [hti, hf, hpl, follow, hfn, receiverAt, run_underlying hu, Place.get, hp, strVal, run_nilchk, asAddr, hlv]
    split <;> simp [hlv]
  obtain ⟨K, _, hcase⟩ := hr
  rcases ha with ⟨ha, rfl⟩ | ⟨ha, rfl⟩
  · rcases hcase with ⟨h0, _⟩ | ⟨m', hm', hle, rfl⟩
    · cases h0
    · have : m' = sizeT P e := by omega
      subst this
      obtain ⟨r, h2, h3, h4, _⟩ := C.cut hle
      obtain ⟨d, hu2, _⟩ := agg_under ha
      obtain ⟨i2, hi2⟩ := info_under hu2
      have hl := run_loadCells_list (P := P) w ⟨B, base + o, none⟩ r h4
      rw [h2, sizeT_eq hi2] at hl
      have hlv : (loadVar e ⟨B, base + o, none⟩).run P w = .ok (.agg r.toArray) w := by simp [loadVar, run_isAgg' ha, run_sizeOf' hi2, hl]
      exact ⟨_, key _ hlv, r.toArray, rfl, by simpa using h3⟩
  · rcases hcase with ⟨_, hx⟩ | ⟨m', hm', _⟩
    · obtain ⟨c, h2, _, h3⟩ := C.at_ hx
      have hlv : (loadVar e ⟨B, base + o, none⟩).run P w = .ok c w := by simp [loadVar, run_isAgg' ha, load, Sem.run, h2]
      exact ⟨c, key _ hlv, h3⟩
    · cases hm'
theorem invoke_method (name : String) (cap : Array Value) (x : Value) (args : Array Value) : invoke (.fn (.method name) cap) (#[x] ++ args) = callMethod x name args := by
  have h0 : (#[x] ++ args)[0]? = some x := by rw [Array.getElem?_append_left (by simp)]; rfl
  have h1 : (#[x] ++ args).extract 1 (#[x] ++ args).size = args := by
    apply Array.ext'
    simp
  unfold invoke
  simp only [h0, h1]
theorem inv_ok (H : HR X W Z ρ h.get w) {a : Act} {c : Call} {ty : TypeId} {r : Operand} {name : String} {xs : List AV} (hc : c.callee = .invoke r name) (hv : VR X ρ v (a.eval r)) (hx : VRs X ρ xs (c.args.toList.map a.eval)) : OpR X P W Z ρ id w (callS a c ty) (invA h (methods P name) v xs) := by
  cases v with
  | ic t v =>
    obtain ⟨u, he, hu⟩ := hv
    show OpR X P W Z ρ id w _ (invL t (methods P name) fun f n => invR h f n v xs)
    refine invL_ok fun f n hm => ?_
    have M := mem_methods hm
    cases n with
    | none =>
      refine ⟨#[u] ++ c.args.map a.eval, ?_, ?_⟩
      · have := run_method M u (P.types.size + 99) w
        simp only [callS, resolve, hc, he, Sem.run_bind, Sem.run_pure, Result.andThen_ok, invoke_method, callMethod, Made.depth, run_program]
        rw [show P.types.size + 100 = P.types.size + 99 + 1 from rfl, this]
        rfl
      · simp only [Array.toList_append, Array.toList_map]
        exact VRs_cons.2 ⟨u, _, rfl, hu, hx⟩
    | some n =>
      show OpR X P W Z ρ id w _ (invR h f (some n) v xs)
      cases v with
      | p b o =>
        obtain ⟨B, base, tot, h1, rfl⟩ := hu
        refine cellsAt_ok fun vs hb => ?_
        have fin : ∀ x : AV, (∃ K : AV → OR, recvK vs o n K = K x ∧ ((n = 0 ∧ vs[o]? = some x) ∨ ∃ m, n = m + 1 ∧ o + m ≤ vs.length ∧ x = .ag ((vs.drop o).take m))) → OpR X P W Z ρ id w (callS a c ty) (.c f (x :: xs)) := fun x hr => by
          obtain ⟨r, h2, h3⟩ := run_methodN H M h1 hb (P.types.size + 99) hr
          refine ⟨#[r] ++ c.args.map a.eval, ?_, ?_⟩
          · simp only [callS, resolve, hc, he, Sem.run_bind, Sem.run_pure, Result.andThen_ok, invoke_method, callMethod, Made.depth, run_program]
            rw [show P.types.size + 100 = P.types.size + 99 + 1 from rfl, h2]
            rfl
          · simp only [Array.toList_append, Array.toList_map]
            exact VRs_cons.2 ⟨r, _, rfl, h3, hx⟩
        cases n with
        | zero =>
          show OpR X P W Z ρ id w _ (Bool.rec .bad (.c f (getAt vs o :: xs)) (Nat.blt o (lenL vs)))
          cases hlt : Nat.blt o (lenL vs) with
          | false => exact trivial
          | true =>
            have hlt' : o < vs.length := by have : o < lenL vs := Nat.le_of_ble_eq_true hlt; rwa [lenL_eq] at this
            have hat : vs[o]? = some vs[o] := List.getElem?_eq_getElem hlt'
            have hg : getAt vs o = vs[o] := by rw [getAt_some, hat]; rfl
            rw [hg]
            refine fin _ ⟨fun x => .c f (x :: xs), ?_, .inl ⟨rfl, hat⟩⟩
            show (Bool.rec .bad (.c f (getAt vs o :: xs)) (Nat.blt o (lenL vs)) : OR) = _
            rw [hlt, hg]
        | succ m =>
          show OpR X P W Z ρ id w _ (cutK vs o m fun r => .c f (.ag r :: xs))
          refine cutK_ok fun hn => fin _ ⟨fun x => .c f (x :: xs), ?_, .inr ⟨m, rfl, hn, rfl⟩⟩
          show cutK vs o m (fun r => OR.c f (.ag r :: xs)) = _
          unfold cutK
          rw [show Nat.ble (Nat.add o m) (lenL vs) = true from by rw [lenL_eq]; exact Nat.ble_eq_true_of_le hn, takeL_eq, dropL_eq]
          rfl
      | _ => exact trivial
  | _ => exact trivial
end
section
variable {X : Nat → Value} {P : Program} {W : World} {Z : Nat → Option Obj} {ρ : Rho} {id : Nat} {w : World} {h : T AB} {g : T AV} {l : L}
variable {x y k v : AV} {vx vy kv vv : Value}
theorem OpR.congr {s s' : Sem Next} {r : OR} (hr : s'.run P w = s.run P w) (h : OpR X P W Z ρ id w s r) : OpR X P W Z ρ id w s' r := by
  unfold OpR at h ⊢
  rw [hr]
  exact h
theorem bad_ok {s : Sem Next} : OpR X P W Z ρ id w s (stepS sBad g l h id) := trivial
theorem keyOk_ok {kt : TypeId} {s : Kq → Step} {S : Sem Next} (hk : ∀ q, KeyK P kt q → OpR X P W Z ρ id w S (stepS (s q) g l h id)) : OpR X P W Z ρ id w S (stepS (keyOk P kt s) g l h id) := by
  unfold keyOk
  split
  · rename_i h; exact hk _ (.int h)
  · rename_i h; exact hk _ (.str h)
  · rename_i h
    split
    · rename_i h2
      split
      · rename_i h3
        obtain ⟨i, hi, hs⟩ := info_of_size (n := 0) h3
        exact hk _ (.arr h h2 hi hs)
      · exact bad_ok
    · exact bad_ok
  · exact bad_ok
theorem zK_ok {t : TypeId} {K : AV → Step} {S : Sem Next} (hk : ∀ i z, P.info? t = some i → i.zero = some z → z.cells.size = i.size → OpR X P W Z ρ id w S (stepS (K (ofVal z)) g l h id)) : OpR X P W Z ρ id w S (stepS (zK P t K) g l h id) := by
  refine zeroK_ok fun i z hi hz => ?_
  show OpR X P W Z ρ id w S (stepS (Bool.rec sBad (K (ofVal z)) (Nat.beq (lenL (cellsOf (ofVal z))) (sizeT P t))) g l h id)
  cases hc : Nat.beq (lenL (cellsOf (ofVal z))) (sizeT P t)
  · exact bad_ok
  · have := Nat.eq_of_beq_eq_true hc
    rw [lenL_eq, sizeT_eq hi, ← (cells_ofVal (X := X) ρ z).len] at this
    exact hk i z hi hz (by simpa using this)
theorem byK_ok {e : TypeId} {s : Step} {S : Sem Next} (hk : ∀ i, P.info? e = some i → i.bytes ≤ 65536 → OpR X P W Z ρ id w S (stepS s g l h id)) : OpR X P W Z ρ id w S (stepS (byK P e s) g l h id) := by
  unfold byK
  cases hi : P.info? e with
  | none => exact bad_ok
  | some i =>
    show OpR X P W Z ρ id w S (stepS (Bool.rec sBad s (Nat.ble i.bytes 65536)) g l h id)
    cases hc : Nat.ble i.bytes 65536
    · exact bad_ok
    · exact hk i hi (Nat.le_of_ble_eq_true hc)
theorem noInt_ok {ts : Array TypeId} {s : Step} {S : Sem Next} (hk : (ts[1]? = none ∨ ∃ tx, ts[1]? = some tx ∧ (P.underlying tx = some .string ∨ ∃ e', P.underlying tx = some (.slice e'))) → OpR X P W Z ρ id w S (stepS s g l h id)) : OpR X P W Z ρ id w S (stepS (noInt P ts s) g l h id) := by
  unfold noInt
  cases h1 : ts[1]? with
  | none => exact hk (.inl h1)
  | some tx =>
    simp only
    split
    · rename_i hu; exact hk (.inr ⟨tx, h1, .inr ⟨_, hu⟩⟩)
    · rename_i hu; exact hk (.inr ⟨tx, h1, .inl hu⟩)
    · exact bad_ok
theorem notIf_ok {t : TypeId} {s : Step} {S : Sem Next} (hk : ∀ d, P.underlying t = some d → (∀ m, d ≠ .interface m) → OpR X P W Z ρ id w S (stepS s g l h id)) : OpR X P W Z ρ id w S (stepS (notIf P t s) g l h id) := by
  unfold notIf
  split
  · exact bad_ok
  · rename_i d hne hu; exact hk d hu fun m hm => hne m (by rw [hm])
  · exact bad_ok
theorem bslN_ok {n : Nat} {s : Step} {S : Sem Next} (hk : n ≤ 65536 → OpR X P W Z ρ id w S (stepS s g l h id)) : OpR X P W Z ρ id w S (stepS (bslN n s) g l h id) := by
  unfold bslN
  cases hc : Nat.ble n 65536
  · exact bad_ok
  · exact hk (Nat.le_of_ble_eq_true hc)
theorem byteT_ok {e : TypeId} {s : Step} {S : Sem Next} (hk : P.underlying e = some (.int .u8) → OpR X P W Z ρ id w S (stepS s g l h id)) : OpR X P W Z ρ id w S (stepS (byteT P e s) g l h id) := by
  unfold byteT
  split
  · exact hk (by assumption)
  · exact bad_ok
theorem pos_of {e : TypeId} {m : Nat} (h : sizeT P e = m + 1) : ∃ i, P.info? e = some i ∧ 0 < i.size ∧ sizeT P e = i.size := by
  obtain ⟨i, hi, hs⟩ := info_of_size h
  exact ⟨i, hi, by omega, sizeT_eq hi⟩
/-- a fact of the program: the fields of a struct have types that are known -/
def FieldsOk (P : Program) : Prop := ∀ t fs, t < P.types.size → P.underlying t = some (.struct fs) → ∀ f ∈ fs.toList, ∃ i, P.info? f.type = some i
theorem in_lt {t m : Nat} (h : inN P t = m + 1) : t < P.types.size := by
  unfold inN at h
  cases e : P.types[t]? with
  | none => rw [e] at h; cases h
  | some i => exact (Array.getElem?_eq_some_iff.1 e).1
section op
variable {nt kp : Nat} {a : Act}
theorem EnvR.evO (E : EnvR X ρ nt g l a) (kp : Nat) (o : Option Operand) : OptV X ρ (Ex.evO g l (o.map (co kp))) (o.map a.eval) := by
  cases o with
  | none => rfl
  | some x => exact ⟨_, rfl, E.ev kp x⟩
theorem EnvR.cos (E : EnvR X ρ nt g l a) (kp : Nat) (xs : Array Operand) : VRs X ρ (Ex.evL g l (Ex.cos kp xs)) (xs.toList.map a.eval) := E.evL kp xs.toList
theorem bin_ok (hX : XOk X) (E : EnvR X ρ nt g l a) (op : BinOp) (t : TypeId) (x y : Operand) : OpR X P W Z ρ id w (binS op t x y (a.eval x) (a.eval y)) (stepS (sBin P op t (co kp x) (co kp y)) g l h id) := by
  have hx := E.ev kp x
  have hy := E.ev kp y
  cases op with
  | add => exact add_ok hx hy
  | sub => exact sub_ok hx hy
  | mul => exact mul_ok hx hy
  | eql => exact eq_ok false hx hy
  | neq => exact eq_ok true hx hy
  | lss => exact lss_ok hx hy
  | leq => exact leq_ok hx hy
  | gtr => exact gtr_ok hx hy
  | geq => exact geq_ok hx hy
  | and => exact and_ok hX hx hy
  | or => exact or_ok hx hy
  | xor => exact xor_ok hx hy
  | quo => exact quo_ok hx hy
  | rem => exact rem_ok hx hy
  | shl => exact shl_ok hx hy
  | shr => exact shr_ok hx hy
  | andNot => exact bad_ok
theorem conv_ok (E : EnvR X ρ nt g l a) (H : HR X W Z ρ h.get w) (hid : ρ id = none) (s d : TypeId) (x : Operand) : OpR X P W Z ρ id w (do pure (.value (← convert s d (a.eval x)))) (stepS (cconv P s d (co kp x)) g l h id) := by
  have hx := E.ev kp x
  unfold cconv
  split
  · exact cvInt_ok (by assumption) (by assumption) hx
  · exact cvStr_ok (by assumption) (by assumption) hx
  · exact byteT_ok fun he => toB_ok hid (by assumption) (by assumption) he hx
  · exact byteT_ok fun he => ofB_ok H (by assumption) he (by assumption) hx
  · exact bad_ok
theorem args1 {c : Call} {x : CO} (hc : cos kp c.args = [x]) : ∃ o, c.args = #[o] ∧ x = co kp o := by
  rcases hargs : c.args with ⟨l⟩
  unfold cos at hc
  rw [hargs] at hc
  cases l with
  | nil => simp at hc
  | cons o l => cases l with
    | nil => simp at hc; exact ⟨o, rfl, hc.symm⟩
    | cons _ _ => simp at hc
theorem args2 {c : Call} {x y : CO} (hc : cos kp c.args = [x, y]) : ∃ o p, c.args = #[o, p] ∧ x = co kp o ∧ y = co kp p := by
  rcases hargs : c.args with ⟨l⟩
  unfold cos at hc
  rw [hargs] at hc
  match l, hc with
  | [o, p], hc => simp at hc; exact ⟨o, p, rfl, hc.1.symm, hc.2.symm⟩
  | [], hc => simp at hc
  | [_], hc => simp at hc
  | _ :: _ :: _ :: _, hc => simp at hc
theorem call_b {c : Call} {ty : TypeId} {b : Builtin} (hc : c.callee = .builtin b) {r : OR} (hb : OpR X P W Z ρ id w (builtin b c.argTypes ty (c.args.map fun | .const _ => true | _ => false) (c.args.map a.eval)) r) : OpR X P W Z ρ id w (callS a c ty) r := by
  have hr : (callS a c ty).run P w = (builtin b c.argTypes ty (c.args.map fun | .const _ => true | _ => false) (c.args.map a.eval)).run P w := by simp only [callS, resolve, hc, Sem.run_bind, Sem.run_pure, Result.andThen_ok]; rfl
  unfold OpR at hb ⊢
  rw [hr]
  exact hb
theorem bi_ok (hX : XOk X) (E : EnvR X ρ nt g l a) (H : HR X W Z ρ h.get w) (hid : ρ id = none) {c : Call} {ty : TypeId} {b : Builtin} (hc : c.callee = .builtin b) : OpR X P W Z ρ id w (callS a c ty) (stepS (cbuiltin P b c.argTypes (cos kp c.args)) g l h id) := by
  refine call_b hc ?_
  generalize (c.args.map fun | .const _ => true | _ => false) = cn
  unfold cbuiltin
  split
  · -- len
    rename_i x hx
    obtain ⟨o, ho, rfl⟩ := args1 hx
    rw [ho, show (#[o] : Array Operand).map a.eval = #[a.eval o] by simp]
    split
    · rename_i t ht
      unfold lenK
      split
      · exact len_sok ht (by assumption) (E.ev kp o)
      · exact len_lok ht (by assumption) (E.ev kp o)
      · exact len_mok H ht (by assumption) (E.ev kp o)
      · exact bad_ok
    · exact bad_ok
  · rename_i x hx
    obtain ⟨o, ho, rfl⟩ := args1 hx
    rw [ho, show (#[o] : Array Operand).map a.eval = #[a.eval o] by simp]
    split
    · rename_i t ht
      split
      · exact cap_ok ht (by assumption) (E.ev kp o)
      · exact bad_ok
    · exact bad_ok
  · rename_i x y hx
    obtain ⟨o, p, ho, rfl, rfl⟩ := args2 hx
    rw [ho, show (#[o, p] : Array Operand).map a.eval = #[a.eval o, a.eval p] by simp]
    split
    · rename_i t ht
      split
      · rename_i e hu
        refine szK_ok fun m hm => byK_ok fun i hi hb => noInt_ok fun h1 => zK_ok fun i' z hi' hz hzs => ?_
        rw [hi] at hi'; injection hi' with hi'; subst hi'
        have hp : 0 < i.size := by have := sizeT_eq hi; omega
        exact app_ok hX H hid ⟨ht, h1, hu, hi, hz, hp, hzs, hb⟩ (E.ev kp o) (E.ev kp p)
      · exact bad_ok
    · exact bad_ok
  · exact min_ok (by simpa using E.cos kp c.args)
  · exact max_ok (by simpa using E.cos kp c.args)
  · rename_i x y hx
    obtain ⟨o, p, ho, rfl, rfl⟩ := args2 hx
    rw [ho, show (#[o, p] : Array Operand).map a.eval = #[a.eval o, a.eval p] by simp]
    split
    · rename_i t ht
      split
      · exact keyOk_ok fun q K => del_ok H ht (by assumption) K (E.ev kp o) (E.ev kp p)
      · exact bad_ok
    · exact bad_ok
  · rename_i x hx
    obtain ⟨o, ho, rfl⟩ := args1 hx
    rw [ho, show (#[o] : Array Operand).map a.eval = #[a.eval o] by simp]
    split
    · rename_i t ht
      split
      · exact clr_ok H ht (by assumption) (E.ev kp o)
      · exact bad_ok
    · exact bad_ok
  · rename_i x y hx
    obtain ⟨o, p, ho, rfl, rfl⟩ := args2 hx
    rw [ho, show (#[o, p] : Array Operand).map a.eval = #[a.eval o, a.eval p] by simp]
    split
    · rename_i t ht
      split
      · refine szK_ok fun m hm => ?_
        obtain ⟨i, hi, hi2⟩ := info_of_size hm
        exact copy_ok hX H ht (by assumption) hi (E.ev kp o) (E.ev kp p)
      · exact bad_ok
    · exact bad_ok
  · exact bad_ok
theorem ccall_ok (hX : XOk X) (E : EnvR X ρ nt g l a) (H : HR X W Z ρ h.get w) (hid : ρ id = none) (c : Call) (ty : TypeId) : OpR X P W Z ρ id w (callS a c ty) (stepS (ccall P kp c) g l h id) := by
  unfold ccall
  split
  · rename_i f hc
    exact call_ok hc (E.cos kp c.args)
  · rename_i o hne hc
    exact callv_ok hc (E.ev kp o) (E.cos kp c.args)
  · rename_i b hc
    exact bi_ok hX E H hid hc
  · rename_i r name hc
    exact inv_ok H hc (E.ev kp r) (E.cos kp c.args)
theorem comp_ok (hX : XOk X) (hF : FieldsOk P) (E : EnvR X ρ nt g l a) (H : HR X W Z ρ h.get w) (hid : ρ id = none) (o : Oper) : OpR X P W Z ρ id w (execOp a.eval o) (stepS (comp P kp o.op) g l h id) := by
  cases ho : o.op with
  | move x => unfold execOp; simp only [ho]; exact mv_ok (E.ev kp x)
  | assign x => unfold execOp; simp only [ho]; exact mv_ok (E.ev kp x)
  | pick c x y => unfold execOp; simp only [ho]; exact pick_ok (E.ev kp c) (E.ev kp x) (E.ev kp y)
  | alloc t =>
    unfold execOp; simp only [ho, comp]
    exact zeroK_ok fun i z hi hz => new_ok hid hi hz
  | box t x => unfold execOp; simp only [ho]; exact box_ok hX hid (E.ev kp x)
  | build t ps =>
    unfold execOp; simp only [ho, comp]
    split
    · rename_i fs hu
      exact szK_ok fun m hm => zeroK_ok fun i z hi hz => build_ok hX E hu (hF _ _ (in_lt hm) hu) hi hz
    · rename_i n e hu
      refine szK_ok fun m hm => zeroK_ok fun i z hi hz => ?_
      obtain ⟨ie, hie, _⟩ := info_of_size hm
      exact buildE_ok hX E hu hie hi hz
    · exact bad_ok
  | buildSlice t n ps =>
    unfold execOp; simp only [ho, comp]
    split
    · rename_i e hu
      refine szK_ok fun m hm => bslN_ok fun hn => zK_ok fun ie z hie hz hzs => ?_
      have hp : 0 < ie.size := by have := sizeT_eq hie; omega
      exact bsl_ok hX hid E hu hp hn hie hz hzs
    · exact bad_ok
  | load t x =>
    unfold execOp; simp only [ho, comp, cLoad]
    split
    · exact bad_ok
    · exact ldn_ok H (by assumption) (E.ev kp x)
    · exact ld_ok H (by assumption) (E.ev kp x)
  | store t x y =>
    unfold execOp; simp only [ho, comp, cStore]
    split
    · exact bad_ok
    · exact stn_ok hX H (by assumption) (E.ev kp x) (E.ev kp y)
    · split
      · exact st1_ok hX H (by assumption) (E.ev kp x) (E.ev kp y)
      · exact bad_ok
  | nilCheck x => exact nil_ok (E.ev kp x) o a x ho rfl
  | binOp op t x y p => unfold execOp; simp only [ho, comp]; exact OpR.congr (by simp [binS]) (bin_ok (P := P) (W := W) (Z := Z) (id := id) (w := w) (h := h) (kp := kp) hX E op t x y)
  | unOp op t x =>
    unfold execOp; simp only [ho]
    cases op with
    | not => exact not_ok (E.ev kp x)
    | neg => exact neg_ok (E.ev kp x)
    | xor => exact com_ok (E.ev kp x)
    | plus => exact bad_ok
  | convert s d x => unfold execOp; simp only [ho, comp]; exact conv_ok E H hid s d x
  | makeInterface t x => unfold execOp; simp only [ho, comp]; exact notIf_ok fun d hu hd => mkif_ok hu hd (E.ev kp x)
  | makeFunc fn x y => unfold execOp; simp only [ho]; exact mkfn_ok (by simpa using E.cos kp x) (by simpa using E.cos kp y)
  | makeMap t r =>
    cases r with
    | none => exact mkmap_ok o ho (.inl rfl)
    | some r =>
      cases r with
      | const v =>
        cases v with
        | int k n =>
          simp only [comp]
          split
          · rename_i kt e hu
            exact mkmap_ok o ho (.inr ⟨k, n, rfl, kt, e, hu⟩)
          · exact bad_ok
        | _ => exact bad_ok
      | _ => exact bad_ok
  | makeSlice t x y =>
    unfold execOp; simp only [ho, comp]
    split
    · rename_i e hu
      refine szK_ok fun m hm => byK_ok fun i hi hb => zK_ok fun i' z hi' hz hzs => ?_
      rw [hi] at hi'; injection hi' with hi'; subst hi'
      have hp : 0 < i.size := by have := sizeT_eq hi; omega
      exact mksl_ok hid hu hi hz hp hzs hb (E.ev kp x) (E.ev kp y)
    · exact bad_ok
  | slice t x lo hi mx =>
    unfold execOp; simp only [ho, comp]
    split
    · rename_i e hu
      exact szK_ok fun m hm => sls_ok hu hm (E.evO kp lo) (E.evO kp hi) (E.evO kp mx) (E.ev kp x)
    · rename_i hu
      split
      · exact slsS_ok hu (E.evO kp lo) (E.evO kp hi) (E.ev kp x)
      · exact bad_ok
    · exact bad_ok
  | fieldAddr s x f =>
    unfold execOp; simp only [ho, comp]
    split
    · rename_i fl hf
      exact szK_ok fun m hm => fa_ok hf hm (E.ev kp x)
    · exact bad_ok
  | field s x f =>
    unfold execOp; simp only [ho, comp, cField]
    split
    · rename_i fl hf
      split
      · exact bad_ok
      · exact fldn_ok hf (by assumption) (E.ev kp x)
      · exact fld_ok hf (by assumption) (E.ev kp x)
    · exact bad_ok
  | indexAddr t x y =>
    unfold execOp; simp only [ho, comp]
    split
    · exact szK_ok fun m hm => ia_ok (by assumption) hm (E.ev kp x) (E.ev kp y)
    · exact szK_ok fun m hm => iar_ok (by assumption) hm (E.ev kp x) (E.ev kp y)
    · exact bad_ok
  | index t x y =>
    unfold execOp; simp only [ho, comp]
    split
    · exact ixs_ok (by assumption) (E.ev kp x) (E.ev kp y)
    · exact bad_ok
  | lookup t x y ok =>
    unfold execOp; simp only [ho, comp]
    split
    · rename_i kt e hu
      exact keyOk_ok fun q K => zeroK_ok fun i z hi hz => look_ok H hu K hi hz ok (E.ev kp x) (E.ev kp y)
    · exact bad_ok
  | mapUpdate t x y z =>
    unfold execOp; simp only [ho, comp]
    split
    · exact keyOk_ok fun q K => mset_ok H (by assumption) K (E.ev kp x) (E.ev kp y) (E.ev kp z)
    · exact bad_ok
  | insert t x y z =>
    unfold execOp; simp only [ho, comp]
    split
    · exact keyOk_ok fun q K => mset_ok H (by assumption) K (E.ev kp x) (E.ev kp y) (E.ev kp z)
    · exact bad_ok
  | mapEntry t x y =>
    unfold execOp; simp only [ho, comp]
    split
    · rename_i kt e hu
      exact keyOk_ok fun q K => zeroK_ok fun i z hi hz => ment_ok H hu K hi hz (E.ev kp x) (E.ev kp y)
    · exact bad_ok
  | entryStore t x y z => unfold execOp; simp only [ho]; exact mest_ok H (E.ev kp x) (E.ev kp y) (E.ev kp z)
  | range t x =>
    unfold execOp; simp only [ho, comp]
    split
    · exact rng_ok H hid (by assumption) (E.ev kp x)
    · exact bad_ok
  | next x s =>
    cases s with
    | true => exact bad_ok
    | false => unfold execOp; simp only [ho]; exact nxt_ok H (E.ev kp x)
  | entry x => unfold execOp; simp only [ho]; exact ent_ok H (E.ev kp x)
  | typeAssert x xt t ok =>
    cases ok with
    | true => exact bad_ok
    | false => unfold execOp; simp only [ho, comp]; exact notIf_ok fun d hu hd => ta_ok hu hd (E.ev kp x)
  | extract x i => unfold execOp; simp only [ho]; exact ext_ok i (E.ev kp x)
  | call c => unfold execOp; simp only [ho, comp]; exact ccall_ok hX E H hid c o.type
  | _ => exact bad_ok
end op
end
/-! ### an operation depends on what it looks at -/
section
variable {P : Program} {kp : Nat} {g g' : T AV} {l l' : L}
def Same (s : Step) (g : T AV) (l : L) (g' : T AV) (l' : L) : Prop := ∀ h id, stepS s g l h id = stepS s g' l' h id
theorem Same.bad : Same sBad g l g' l' := fun _ _ => rfl
theorem Same.sz {n : Nat} {s : Step} (h : Same s g l g' l') : Same (szK n s) g l g' l' := by cases n; exact .bad; exact h
theorem Same.zero {t : TypeId} {K : AV → Step} (h : ∀ z, Same (K z) g l g' l') : Same (zeroK P t K) g l g' l' := by
  unfold zeroK; split
  · split
    · exact h _
    · exact .bad
  · exact .bad
theorem Same.z {t : TypeId} {K : AV → Step} (h : ∀ z, Same (K z) g l g' l') : Same (zK P t K) g l g' l' := Same.zero fun z => by
  show Same (Bool.rec sBad (K z) (Nat.beq (lenL (cellsOf z)) (sizeT P t))) g l g' l'
  cases Nat.beq (lenL (cellsOf z)) (sizeT P t)
  · exact .bad
  · exact h z
theorem Same.by_ {t : TypeId} {s : Step} (h : Same s g l g' l') : Same (byK P t s) g l g' l' := by
  unfold byK; split
  · rename_i i _
    show Same (Bool.rec sBad s (Nat.ble i.bytes 65536)) g l g' l'
    cases Nat.ble i.bytes 65536
    · exact .bad
    · exact h
  · exact .bad
theorem Same.noInt {ts : Array TypeId} {s : Step} (h : Same s g l g' l') : Same (noInt P ts s) g l g' l' := by
  unfold Ex.noInt; split
  · split
    · exact h
    · exact h
    · exact .bad
  · exact h
theorem Same.notIf {t : TypeId} {s : Step} (h : Same s g l g' l') : Same (notIf P t s) g l g' l' := by
  unfold Ex.notIf; split
  · exact .bad
  · exact h
  · exact .bad
theorem Same.bsl {n : Nat} {s : Step} (h : Same s g l g' l') : Same (bslN n s) g l g' l' := by
  unfold bslN
  cases Nat.ble n 65536
  · exact .bad
  · exact h
theorem Same.byte {t : TypeId} {s : Step} (h : Same s g l g' l') : Same (byteT P t s) g l g' l' := by
  unfold byteT; split
  · exact h
  · exact .bad
theorem Same.key {t : TypeId} {s : Kq → Step} (h : ∀ q, Same (s q) g l g' l') : Same (keyOk P t s) g l g' l' := by
  unfold keyOk; split
  · exact h _
  · exact h _
  · split
    · split
      · exact h _
      · exact .bad
    · exact .bad
  · exact .bad
theorem evL_congr : ∀ {xs : List Operand}, (∀ x ∈ xs, ev g l (co kp x) = ev g' l' (co kp x)) → evL g l (xs.map (co kp)) = evL g' l' (xs.map (co kp))
  | [], _ => rfl
  | x :: xs, h => by
    show ev g l (co kp x) :: evL g l (xs.map (co kp)) = ev g' l' (co kp x) :: evL g' l' (xs.map (co kp))
    rw [h x (by simp), evL_congr fun y hy => h y (by simp [hy])]
theorem evO_congr {o : Option Operand} (h : ∀ x, o = some x → ev g l (co kp x) = ev g' l' (co kp x)) : evO g l (o.map (co kp)) = evO g' l' (o.map (co kp)) := by
  cases o with
  | none => rfl
  | some x => exact congrArg some (h x rfl)
theorem placeS_congr {fs : Array Field} : ∀ {ps : List (Nat × Operand)}, (∀ p ∈ ps, ev g l (co kp p.2) = ev g' l' (co kp p.2)) → evP g l (placeS P kp fs ps) = evP g' l' (placeS P kp fs ps)
  | [], _ => rfl
  | (k, x) :: ps, h => by
    have ih := placeS_congr (fs := fs) fun p hp => h p (List.mem_cons_of_mem _ hp)
    have h0 := h (k, x) (by simp)
    cases e : fs[k]? with
    | none =>
      have e1 : placeS P kp fs ((k, x) :: ps) = (0, 0, .c .any) :: placeS P kp fs ps := by simp only [placeS, List.map_cons, e]
      rw [e1]
      show (0, 0, AV.any) :: evP g l (placeS P kp fs ps) = (0, 0, AV.any) :: evP g' l' (placeS P kp fs ps)
      rw [ih]
    | some f =>
      have e1 : placeS P kp fs ((k, x) :: ps) = (f.offset, sizeT P f.type, co kp x) :: placeS P kp fs ps := by simp only [placeS, List.map_cons, e]
      rw [e1]
      show (f.offset, sizeT P f.type, ev g l (co kp x)) :: evP g l (placeS P kp fs ps) = (f.offset, sizeT P f.type, ev g' l' (co kp x)) :: evP g' l' (placeS P kp fs ps)
      rw [ih, h0]
theorem placeE_congr {sz : Nat} : ∀ {ps : List (Nat × Operand)}, (∀ p ∈ ps, ev g l (co kp p.2) = ev g' l' (co kp p.2)) → evP g l (placeE kp sz ps) = evP g' l' (placeE kp sz ps)
  | [], _ => rfl
  | (k, x) :: ps, h => by
    show (k * sz, sz, ev g l (co kp x)) :: evP g l (placeE kp sz ps) = (k * sz, sz, ev g' l' (co kp x)) :: evP g' l' (placeE kp sz ps)
    rw [placeE_congr fun p hp => h p (List.mem_cons_of_mem _ hp), h (k, x) (by simp)]
theorem un_congr {A : AV → OR} {x : CO} (h : ev g l x = ev g' l' x) : Same (.un A x) g l g' l' := fun _ _ => congrArg A h
theorem rd_congr {A : T AB → AV → OR} {x : CO} (h : ev g l x = ev g' l' x) : Same (.rd A x) g l g' l' := fun hp _ => congrArg (A hp) h
theorem du_congr {A : AV → AV → OR} {x y : CO} (h : ev g l x = ev g' l' x) (h' : ev g l y = ev g' l' y) : Same (.du A x y) g l g' l' := fun _ _ => by
  show A (ev g l x) (ev g l y) = A (ev g' l' x) (ev g' l' y)
  rw [h, h']
theorem bin_congr (op : BinOp) (t : TypeId) {x y : CO} (h : ev g l x = ev g' l' x) (h' : ev g l y = ev g' l' y) : Same (sBin P op t x y) g l g' l' := by
  have he : ∀ q n, Same (sEq q n x y) g l g' l' := fun q n _ _ => by
    show triK (q (ev g l x) (ev g l y)) n = triK (q (ev g' l' x) (ev g' l' y)) n
    rw [h, h']
  cases op <;> first | exact he _ _ | exact du_congr h h' | exact .bad
theorem conv_congr (s d : TypeId) {x : CO} (h : ev g l x = ev g' l' x) : Same (cconv P s d x) g l g' l' := by
  unfold cconv; split
  · exact un_congr h
  · exact un_congr h
  · exact .byte fun _ id => congrArg (toBA id) h
  · exact .byte (rd_congr h)
  · exact .bad
theorem bi_congr (b : Builtin) (ts : Array TypeId) {xs : List Operand} (h : ∀ x ∈ xs, ev g l (co kp x) = ev g' l' (co kp x)) : Same (cbuiltin P b ts (xs.map (co kp))) g l g' l' := by
  have hL := evL_congr (kp := kp) h
  have h1 : ∀ c, xs.map (co kp) = [c] → ev g l c = ev g' l' c := fun c hc => by
    match xs, hc with
    | [x], hc => simp at hc; rw [← hc]; exact h x (by simp)
  have h2 : ∀ c d, xs.map (co kp) = [c, d] → ev g l c = ev g' l' c ∧ ev g l d = ev g' l' d := fun c d hc => by
    match xs, hc with
    | [x, y], hc => simp at hc; rw [← hc.1, ← hc.2]; exact ⟨h x (by simp), h y (by simp)⟩
  unfold cbuiltin
  split
  · rename_i c hc
    split
    · unfold lenK; split
      · exact un_congr (h1 c hc)
      · exact un_congr (h1 c hc)
      · exact rd_congr (h1 c hc)
      · exact .bad
    · exact .bad
  · rename_i c hc
    split
    · split
      · exact un_congr (h1 c hc)
      · exact .bad
    · exact .bad
  · rename_i c d hc
    obtain ⟨e1, e2⟩ := h2 c d hc
    split
    · split
      · exact .sz (.by_ (.noInt (.z fun _ hp id => by
          show appA hp id _ (ev g l c) (ev g l d) = appA hp id _ (ev g' l' c) (ev g' l' d)
          rw [e1, e2])))
      · exact .bad
    · exact .bad
  · exact fun _ _ => congrArg minA hL
  · exact fun _ _ => congrArg maxA hL
  · rename_i c d hc
    obtain ⟨e1, e2⟩ := h2 c d hc
    split
    · split
      · exact .key fun q hp id => by
          show delA hp q (ev g l c) (ev g l d) = delA hp q (ev g' l' c) (ev g' l' d)
          rw [e1, e2]
      · exact .bad
    · exact .bad
  · rename_i c hc
    split
    · split
      · exact fun hp _ => congrArg (clrA hp) (h1 c hc)
      · exact .bad
    · exact .bad
  · rename_i c d hc
    obtain ⟨e1, e2⟩ := h2 c d hc
    split
    · split
      · exact .sz fun hp id => by
          show copyA hp _ (ev g l c) (ev g l d) = copyA hp _ (ev g' l' c) (ev g' l' d)
          rw [e1, e2]
      · exact .bad
    · exact .bad
  · exact .bad
theorem comp_congr (o : Op) (h : ∀ x ∈ o.operands, ev g l (co kp x) = ev g' l' (co kp x)) : Same (comp P kp o) g l g' l' := by
  cases o with
  | move x => exact fun _ _ => congrArg OR.v (h x (by simp [Op.operands]))
  | assign x => exact fun _ _ => congrArg OR.v (h x (by simp [Op.operands]))
  | pick c x y =>
    have e1 := h c (by simp [Op.operands])
    have e2 := h x (by simp [Op.operands])
    have e3 := h y (by simp [Op.operands])
    exact fun _ _ => by
      show pickA (ev g l (co kp c)) (ev g l (co kp x)) (ev g l (co kp y)) = pickA (ev g' l' (co kp c)) (ev g' l' (co kp x)) (ev g' l' (co kp y))
      rw [e1, e2, e3]
  | alloc t =>
    show Same (zeroK P t fun z => sNew (cellsOf z)) g l g' l'
    exact .zero fun z _ _ => rfl
  | box t x => exact fun _ id => congrArg (boxA id) (h x (by simp [Op.operands]))
  | build t ps =>
    have hp : ∀ p ∈ ps.toList, ev g l (co kp p.2) = ev g' l' (co kp p.2) := fun p hp => h p.2 (by simp only [Op.operands]; exact List.mem_toArray.2 (List.mem_map.2 ⟨p, hp, rfl⟩))
    simp only [comp]; split
    · exact .sz (.zero fun z _ _ => by
        show fillA (evP g l (placeS P kp _ ps.toList)) _ _ = fillA (evP g' l' (placeS P kp _ ps.toList)) _ _
        rw [placeS_congr hp])
    · exact .sz (.zero fun z _ _ => by
        show fillA (evP g l (placeE kp _ ps.toList)) _ _ = fillA (evP g' l' (placeE kp _ ps.toList)) _ _
        rw [placeE_congr hp])
    · exact .bad
  | buildSlice t n ps =>
    have hp : ∀ p ∈ ps.toList, ev g l (co kp p.2) = ev g' l' (co kp p.2) := fun p hp => h p.2 (by simp only [Op.operands]; exact List.mem_toArray.2 (List.mem_map.2 ⟨p, hp, rfl⟩))
    simp only [comp]; split
    · exact .sz (.bsl (.z fun z _ _ => by
        show fillA (evP g l (placeE kp _ ps.toList)) _ _ = fillA (evP g' l' (placeE kp _ ps.toList)) _ _
        rw [placeE_congr hp]))
    · exact .bad
  | load t x =>
    simp only [comp, cLoad]; split
    · exact .bad
    · exact rd_congr (h x (by simp [Op.operands]))
    · exact rd_congr (h x (by simp [Op.operands]))
  | store t x y =>
    have e1 := h x (by simp [Op.operands])
    have e2 := h y (by simp [Op.operands])
    simp only [comp, cStore]; split
    · exact .bad
    · exact fun hp _ => by
        show stA hp _ (ev g l (co kp x)) (ev g l (co kp y)) = stA hp _ (ev g' l' (co kp x)) (ev g' l' (co kp y))
        rw [e1, e2]
    · split
      · exact fun hp _ => by
          show st1A hp (ev g l (co kp x)) (ev g l (co kp y)) = st1A hp (ev g' l' (co kp x)) (ev g' l' (co kp y))
          rw [e1, e2]
      · exact .bad
  | nilCheck x => exact un_congr (h x (by simp [Op.operands]))
  | binOp op t x y p => exact bin_congr op t (h x (by simp [Op.operands])) (h y (by simp [Op.operands]))
  | unOp op t x =>
    cases op with
    | not => exact un_congr (h x (by simp [Op.operands]))
    | neg => exact un_congr (h x (by simp [Op.operands]))
    | xor => exact un_congr (h x (by simp [Op.operands]))
    | plus => exact .bad
  | convert s d x => exact conv_congr s d (h x (by simp [Op.operands]))
  | makeInterface t x => exact .notIf fun _ _ => congrArg (fun v => OR.v (.ic t v)) (h x (by simp [Op.operands]))
  | makeFunc fn xs ys =>
    have e1 := evL_congr (kp := kp) (xs := xs.toList) fun x hx => h x (by simp only [Op.operands]; exact Array.mem_append_left _ (by simpa using hx))
    have e2 := evL_congr (kp := kp) (xs := ys.toList) fun x hx => h x (by simp only [Op.operands]; exact Array.mem_append_right _ (by simpa using hx))
    exact fun _ _ => by
      show OR.v (.f fn (evL g l (xs.toList.map (co kp))) (evL g l (ys.toList.map (co kp)))) = OR.v (.f fn (evL g' l' (xs.toList.map (co kp))) (evL g' l' (ys.toList.map (co kp))))
      rw [e1, e2]
  | makeMap t r =>
    cases r with
    | none => exact fun _ _ => rfl
    | some r =>
      cases r with
      | const v =>
        cases v with
        | int k n =>
          simp only [comp]; split
          · exact fun _ _ => rfl
          · exact .bad
        | _ => exact .bad
      | _ => exact .bad
  | makeSlice t x y =>
    have e1 := h x (by simp [Op.operands])
    have e2 := h y (by simp [Op.operands])
    simp only [comp]; split
    · exact .sz (.by_ (.z fun z _ id => by
        show mkslA id _ _ (ev g l (co kp x)) (ev g l (co kp y)) = mkslA id _ _ (ev g' l' (co kp x)) (ev g' l' (co kp y))
        rw [e1, e2]))
    · exact .bad
  | slice t x lo hi mx =>
    have e1 := h x (by simp [Op.operands])
    have e2 := evO_congr (kp := kp) (o := lo) fun y hy => h y (by simp [Op.operands, hy])
    have e3 := evO_congr (kp := kp) (o := hi) fun y hy => h y (by simp [Op.operands, hy])
    have e4 := evO_congr (kp := kp) (o := mx) fun y hy => h y (by simp [Op.operands, hy])
    simp only [comp]; split
    · exact .sz fun _ _ => by
        show slsA _ (ev g l (co kp x)) (evO g l (lo.map (co kp))) (evO g l (hi.map (co kp))) (evO g l (mx.map (co kp))) = slsA _ (ev g' l' (co kp x)) (evO g' l' (lo.map (co kp))) (evO g' l' (hi.map (co kp))) (evO g' l' (mx.map (co kp)))
        rw [e1, e2, e3, e4]
    · split
      · exact fun _ _ => by
          show slsS (ev g l (co kp x)) (evO g l (lo.map (co kp))) (evO g l (hi.map (co kp))) = slsS (ev g' l' (co kp x)) (evO g' l' (lo.map (co kp))) (evO g' l' (hi.map (co kp)))
          rw [e1, e2, e3]
      · exact .bad
    · exact .bad
  | fieldAddr s x f =>
    simp only [comp]; split
    · exact .sz (un_congr (h x (by simp [Op.operands])))
    · exact .bad
  | field s x f =>
    simp only [comp, cField]; split
    · split
      · exact .bad
      · exact un_congr (h x (by simp [Op.operands]))
      · exact un_congr (h x (by simp [Op.operands]))
    · exact .bad
  | indexAddr t x y =>
    simp only [comp]; split
    · exact .sz (du_congr (h x (by simp [Op.operands])) (h y (by simp [Op.operands])))
    · exact .sz (du_congr (h x (by simp [Op.operands])) (h y (by simp [Op.operands])))
    · exact .bad
  | index t x y =>
    simp only [comp]; split
    · exact du_congr (h x (by simp [Op.operands])) (h y (by simp [Op.operands]))
    · exact .bad
  | lookup t x y ok =>
    have e1 := h x (by simp [Op.operands])
    have e2 := h y (by simp [Op.operands])
    simp only [comp]; split
    · exact .key fun q => .zero fun z hp _ => by
        show lookA hp q z ok (ev g l (co kp x)) (ev g l (co kp y)) = lookA hp q z ok (ev g' l' (co kp x)) (ev g' l' (co kp y))
        rw [e1, e2]
    · exact .bad
  | mapUpdate t x y z =>
    have e1 := h x (by simp [Op.operands])
    have e2 := h y (by simp [Op.operands])
    have e3 := h z (by simp [Op.operands])
    simp only [comp]; split
    · exact .key fun q hp _ => by
        show msetA hp q (ev g l (co kp x)) (ev g l (co kp y)) (ev g l (co kp z)) = msetA hp q (ev g' l' (co kp x)) (ev g' l' (co kp y)) (ev g' l' (co kp z))
        rw [e1, e2, e3]
    · exact .bad
  | insert t x y z =>
    have e1 := h x (by simp [Op.operands])
    have e2 := h y (by simp [Op.operands])
    have e3 := h z (by simp [Op.operands])
    simp only [comp]; split
    · exact .key fun q hp _ => by
        show msetA hp q (ev g l (co kp x)) (ev g l (co kp y)) (ev g l (co kp z)) = msetA hp q (ev g' l' (co kp x)) (ev g' l' (co kp y)) (ev g' l' (co kp z))
        rw [e1, e2, e3]
    · exact .bad
  | mapEntry t x y =>
    have e1 := h x (by simp [Op.operands])
    have e2 := h y (by simp [Op.operands])
    simp only [comp]; split
    · exact .key fun q => .zero fun z hp _ => by
        show mentA hp q z (ev g l (co kp x)) (ev g l (co kp y)) = mentA hp q z (ev g' l' (co kp x)) (ev g' l' (co kp y))
        rw [e1, e2]
    · exact .bad
  | entryStore t x y z =>
    have e1 := h x (by simp [Op.operands])
    have e2 := h y (by simp [Op.operands])
    have e3 := h z (by simp [Op.operands])
    exact fun hp _ => by
      show mestA hp (ev g l (co kp x)) (ev g l (co kp y)) (ev g l (co kp z)) = mestA hp (ev g' l' (co kp x)) (ev g' l' (co kp y)) (ev g' l' (co kp z))
      rw [e1, e2, e3]
  | range t x =>
    simp only [comp]; split
    · exact fun hp id => congrArg (rngA hp id) (h x (by simp [Op.operands]))
    · exact .bad
  | next x s =>
    cases s with
    | true => exact .bad
    | false => exact fun hp _ => congrArg (nxtA hp) (h x (by simp [Op.operands]))
  | entry x => exact rd_congr (h x (by simp [Op.operands]))
  | typeAssert x xt t ok =>
    cases ok with
    | true => exact .bad
    | false => exact .notIf (un_congr (h x (by simp [Op.operands])))
  | extract x i => exact un_congr (h x (by simp [Op.operands]))
  | call c =>
    have ha : ∀ x ∈ c.args.toList, ev g l (co kp x) = ev g' l' (co kp x) := fun x hx => h x (by simp only [Op.operands, Call.operands]; split <;> simp_all)
    have hL := evL_congr (kp := kp) ha
    simp only [comp, ccall]; split
    · exact fun _ _ => by
        show OR.c _ (evL g l (c.args.toList.map (co kp))) = OR.c _ (evL g' l' (c.args.toList.map (co kp)))
        rw [hL]
    · rename_i o hne hc
      have e1 := h o (by simp [Op.operands, Call.operands, hc])
      exact fun _ _ => by
        show callvA (ev g l (co kp o)) (evL g l (c.args.toList.map (co kp))) = callvA (ev g' l' (co kp o)) (evL g' l' (c.args.toList.map (co kp)))
        rw [hL, e1]
    · exact bi_congr _ _ ha
    · rename_i r name hc
      have e1 := h r (by simp [Op.operands, Call.operands, hc])
      exact fun hp _ => by
        show invA hp _ (ev g l (co kp r)) (evL g l (c.args.toList.map (co kp))) = invA hp _ (ev g' l' (co kp r)) (evL g' l' (c.args.toList.map (co kp)))
        rw [hL, e1]
  | _ => exact .bad
end
/-! ### what kind of answer an operation gives -/
def isV : OR → Prop
  | .v _ | .bad => True
  | _ => False
def isA : OR → Prop
  | .a _ _ | .bad => True
  | _ => False
section
variable {Q : OR → Prop} (hb : Q .bad)
include hb
theorem iffQ {b : Bool} {r : OR} (h : Q r) : Q (iff b r) := by cases b; exact hb; exact h
theorem intKQ {v : AV} {K : IntKind → Int → OR} (h : ∀ k n, Q (K k n)) : Q (intK v K) := by
  cases v with
  | i k n => exact h k n
  | _ => exact hb
theorem natIQ {n : Int} {K : Nat → OR} (h : ∀ m, Q (K m)) : Q (natI n K) := by
  cases n with
  | ofNat m => exact h m
  | negSucc _ => exact hb
theorem natKQ {v : AV} {K : Nat → OR} (h : ∀ m, Q (K m)) : Q (natK v K) := intKQ hb fun _ _ => natIQ hb h
theorem posNQ {n : Nat} {K : Nat → OR} (h : ∀ m, Q (K m)) : Q (posN n K) := by
  cases n with
  | zero => exact hb
  | succ m => exact h _
theorem intsQ {x y : AV} {K : IntKind → Int → Int → OR} (h : ∀ k a b, Q (K k a b)) : Q (ints x y K) := intKQ hb fun _ _ => intKQ hb fun _ _ => iffQ hb (h _ _ _)
theorem natsQ {x y : AV} {K : IntKind → Nat → Nat → OR} (h : ∀ k a b, Q (K k a b)) : Q (nats x y K) := intsQ hb fun _ _ _ => natIQ hb fun _ => natIQ hb fun _ => h _ _ _
theorem natSQ {x y : AV} {K : IntKind → Nat → Nat → OR} (h : ∀ k a b, Q (K k a b)) : Q (natS x y K) := intKQ hb fun _ _ => intKQ hb fun _ _ => natIQ hb fun _ => natIQ hb fun _ => h _ _ _
theorem cellsAtQ {h : T AB} {b : Nat} {K : List AV → OR} (hk : ∀ vs, Q (K vs)) : Q (cellsAt h b K) := by
  unfold cellsAt
  cases h.get b with
  | none => exact hb
  | some x => cases x with
    | c vs => exact hk vs
    | _ => exact hb
theorem mapAtQ {h : T AB} {b : Nat} {K : List MEnt → Nat → OR} (hk : ∀ es c, Q (K es c)) : Q (mapAt h b K) := by
  unfold mapAt
  cases h.get b with
  | none => exact hb
  | some x => cases x with
    | m es c => exact hk es c
    | _ => exact hb
theorem itAtQ {h : T AB} {b : Nat} {K : Option Nat → Nat → List Nat → Nat → OR} (hk : ∀ m a c d, Q (K m a c d)) : Q (itAt h b K) := by
  unfold itAt
  cases h.get b with
  | none => exact hb
  | some x => cases x with
    | it m a c d => exact hk m a c d
    | _ => exact hb
theorem knownQ {v : AV} (h : Q (.v v)) : Q (known v) := by
  cases v with
  | any => exact hb
  | _ => exact h
theorem cutKQ {vs : List AV} {o n : Nat} {K : List AV → OR} (h : ∀ r, Q (K r)) : Q (cutK vs o n K) := iffQ hb (h _)
theorem byteKQ {K : Nat → OR} (h : ∀ n, Q (K n)) : ∀ (l : List AV) (acc : Nat), Q (byteK l acc K)
  | [], acc => h acc
  | x :: l, acc => by
    show Q (intK x fun k n => natI n fun n => iff (andB (Nat.beq (kmax k) 255) (Nat.ble n 255)) (byteK l (Nat.add (Nat.mul acc 256) n) K))
    exact intKQ hb fun _ _ => natIQ hb fun _ => iffQ hb (byteKQ h l _)
theorem fillAQ {K : List AV → OR} (h : ∀ cs, Q (K cs)) : ∀ (ps : List (Nat × Nat × AV)) (cells : List AV), Q (fillA ps cells K)
  | [], cells => h cells
  | q :: ps, cells => by
    show Q (iff (andB (isKnown q.2.2) (andB (Nat.beq (lenL (cellsOf q.2.2)) q.2.1) (Nat.ble (Nat.add q.1 q.2.1) (lenL cells)))) (fillA ps (putAt cells q.1 (cellsOf q.2.2)) K))
    exact iffQ hb (fillAQ h ps _)
theorem optKQ {o : Option AV} {d : Nat} {K : Nat → OR} (h : ∀ n, Q (K n)) : Q (optK o d K) := by
  cases o with
  | none => exact h d
  | some x => exact natKQ hb h
theorem findMQ {q : Kq} {k : AV} {K : Option (Nat × AV × Nat) → OR} (h : ∀ r, Q (K r)) : ∀ (es : List MEnt) (i : Nat), Q (findM q k es K i)
  | [], i => h _
  | e :: es, i => by
    show Q (Tri.rec (motive := fun _ => OR) (findM q k es K (Nat.succ i)) (K (some (i, e.2.1, e.2.2))) .bad (q k e.1))
    cases q k e.1 with
    | no => exact findMQ h es _
    | yes => exact h _
    | un => exact hb
theorem selfKQ {q : Kq} {k : AV} {r : OR} (h : Q r) : Q (selfK q k r) := by
  unfold selfK
  cases q k k with
  | yes => exact h
  | _ => exact hb
end
theorem vB : isV .bad := trivial
theorem aB : isA .bad := trivial
theorem addV (x y : AV) : isV (addA x y) := by
  cases x with
  | i k a => exact intKQ vB fun _ _ => iffQ vB trivial
  | s l a => cases y with
    | s l' b => exact iffQ vB trivial
    | _ => exact vB
  | _ => exact vB
theorem triV (t : Tri) (n : Bool) : isV (triK t n) := by cases t <;> trivial
theorem smallV {k : IntKind} {a b : Nat} {r : OR} (h : isV r) : isV (small k a b r) := iffQ vB h
theorem quoV (k : IntKind) (a : Int) (b : Nat) : isV (quoI k a b) := by
  cases a with
  | ofNat a => exact smallV (r := .v (.i k (.ofNat (Nat.div a b)))) trivial
  | negSucc n => exact iffQ (r := .v (.i k (negN (Nat.div (Nat.succ n) b)))) vB trivial
theorem minV : ∀ (l : List AV) (k : IntKind) (n : Int), isV (minL l k n)
  | [], _, _ => trivial
  | x :: l, k, n => intKQ vB fun _ _ => minV l _ _
theorem maxV : ∀ (l : List AV) (k : IntKind) (n : Int), isV (maxL l k n)
  | [], _, _ => trivial
  | x :: l, k, n => intKQ vB fun _ _ => maxV l _ _
theorem entV (born : Nat) : ∀ es, isV (entB born es)
  | [] => trivial
  | e :: es => by
    show isV (Bool.rec (entB born es) (.v (.tu [e.1, e.2.1])) (Nat.beq e.2.2 born))
    cases Nat.beq e.2.2 born
    · exact entV born es
    · trivial
/-- what an operation of a kind gives -/
def KindOk (k : Nat) (s : Step) : Prop := ∀ g l,
  (k = 0 → (∀ h id, isV (stepS s g l h id)) ∧ ∀ h h' id id', stepS s g l h id = stepS s g l h' id') ∧
  (k = 1 → (∀ h id, isV (stepS s g l h id)) ∧ ∀ h id id', stepS s g l h id = stepS s g l h id') ∧
  (k = 2 → (∀ h id, isA (stepS s g l h id)) ∧ ∀ h h' id, stepS s g l h id = stepS s g l h' id)
section
variable {P : Program} {kp k : Nat}
theorem KindOk.bad : KindOk k sBad := fun _ _ => ⟨fun _ => ⟨fun _ _ => trivial, fun _ _ _ _ => rfl⟩, fun _ => ⟨fun _ _ => trivial, fun _ _ _ => rfl⟩, fun _ => ⟨fun _ _ => trivial, fun _ _ _ => rfl⟩⟩
theorem KindOk.three {s : Step} : KindOk 3 s := fun _ _ => ⟨fun h => (by cases h), fun h => (by cases h), fun h => (by cases h)⟩
theorem KindOk.pure {s : Step} (h : ∀ g l h id, isV (stepS s g l h id)) (h' : ∀ g l h h' id id', stepS s g l h id = stepS s g l h' id') : KindOk 0 s :=
  fun g l => ⟨fun _ => ⟨h g l, h' g l⟩, fun h => (by cases h), fun h => (by cases h)⟩
theorem KindOk.read {s : Step} (h : ∀ g l h id, isV (stepS s g l h id)) (h' : ∀ g l h id id', stepS s g l h id = stepS s g l h id') : KindOk 1 s :=
  fun g l => ⟨fun h => (by cases h), fun _ => ⟨h g l, h' g l⟩, fun h => (by cases h)⟩
theorem KindOk.new {s : Step} (h : ∀ g l h id, isA (stepS s g l h id)) (h' : ∀ g l h h' id, stepS s g l h id = stepS s g l h' id) : KindOk 2 s :=
  fun g l => ⟨fun h => (by cases h), fun h => (by cases h), fun _ => ⟨h g l, h' g l⟩⟩
theorem KindOk.un {A : AV → OR} {x : CO} (h : ∀ v, isV (A v)) : KindOk 0 (.un A x) := .pure (fun _ _ _ _ => h _) fun _ _ _ _ _ _ => rfl
theorem KindOk.du {A : AV → AV → OR} {x y : CO} (h : ∀ v u, isV (A v u)) : KindOk 0 (.du A x y) := .pure (fun _ _ _ _ => h _ _) fun _ _ _ _ _ _ => rfl
theorem KindOk.rd {A : T AB → AV → OR} {x : CO} (h : ∀ t v, isV (A t v)) : KindOk 1 (.rd A x) := .read (fun _ _ _ _ => h _ _) fun _ _ _ _ _ => rfl
theorem KindOk.un1 {A : AV → OR} {x : CO} (h : ∀ v, isV (A v)) : KindOk 1 (.un A x) := .read (fun _ _ _ _ => h _) fun _ _ _ _ _ => rfl
theorem KindOk.sz {n : Nat} {s : Step} (h : KindOk k s) : KindOk k (szK n s) := by cases n; exact .bad; exact h
theorem KindOk.zero {t : TypeId} {K : AV → Step} (h : ∀ z, KindOk k (K z)) : KindOk k (zeroK P t K) := by
  unfold zeroK; split
  · split
    · exact h _
    · exact .bad
  · exact .bad
theorem KindOk.z {t : TypeId} {K : AV → Step} (h : ∀ z, KindOk k (K z)) : KindOk k (zK P t K) := KindOk.zero fun z => by
  show KindOk k (Bool.rec sBad (K z) (Nat.beq (lenL (cellsOf z)) (sizeT P t)))
  cases Nat.beq (lenL (cellsOf z)) (sizeT P t)
  · exact .bad
  · exact h z
theorem KindOk.by_ {t : TypeId} {s : Step} (h : KindOk k s) : KindOk k (byK P t s) := by
  unfold byK; split
  · rename_i i _
    show KindOk k (Bool.rec sBad s (Nat.ble i.bytes 65536))
    cases Nat.ble i.bytes 65536
    · exact .bad
    · exact h
  · exact .bad
theorem KindOk.notIf {t : TypeId} {s : Step} (h : KindOk k s) : KindOk k (notIf P t s) := by
  unfold Ex.notIf; split
  · exact .bad
  · exact h
  · exact .bad
theorem KindOk.bsl {n : Nat} {s : Step} (h : KindOk k s) : KindOk k (bslN n s) := by
  unfold bslN
  cases Nat.ble n 65536
  · exact .bad
  · exact h
theorem KindOk.byte {t : TypeId} {s : Step} (h : KindOk k s) : KindOk k (byteT P t s) := by
  unfold byteT; split
  · exact h
  · exact .bad
theorem KindOk.key {t : TypeId} {s : Kq → Step} (h : ∀ q, KindOk k (s q)) : KindOk k (keyOk P t s) := by
  unfold keyOk; split
  · exact h _
  · exact h _
  · split
    · split
      · exact h _
      · exact .bad
    · exact .bad
  · exact .bad
theorem bin_kind (op : BinOp) (t : TypeId) (x y : CO) : KindOk 0 (sBin P op t x y) := by
  have he : ∀ q n, KindOk 0 (sEq q n x y) := fun q n => .pure (fun _ _ _ _ => triV _ _) fun _ _ _ _ _ _ => rfl
  cases op with
  | add => exact .du addV
  | sub => exact .du fun _ _ => intsQ vB fun _ _ _ => trivial
  | mul => exact .du fun _ _ => intsQ vB fun _ _ _ => trivial
  | eql => exact he _ _
  | neq => exact he _ _
  | lss => exact .du fun _ _ => intsQ vB fun _ _ _ => trivial
  | leq => exact .du fun _ _ => intsQ vB fun _ _ _ => trivial
  | gtr => exact .du fun _ _ => intsQ vB fun _ _ _ => trivial
  | geq => exact .du fun _ _ => intsQ vB fun _ _ _ => trivial
  | and =>
    refine .du fun x y => ?_
    cases x with
    | i k n => exact natsQ vB fun _ _ _ => smallV trivial
    | x n => exact intKQ vB fun _ _ => natIQ vB fun _ => iffQ vB trivial
    | _ => exact trivial
  | or => exact .du fun _ _ => natsQ vB fun _ _ _ => smallV trivial
  | xor => exact .du fun _ _ => natsQ vB fun _ _ _ => smallV trivial
  | quo => exact .du fun _ _ => intsQ vB fun k a b => natIQ vB fun _ => posNQ vB fun b => quoV k a b
  | rem => exact .du fun _ _ => natsQ vB fun _ _ _ => posNQ vB fun _ => trivial
  | shl => exact .du fun _ _ => natSQ vB fun _ _ _ => iffQ vB trivial
  | shr => exact .du fun _ _ => natSQ vB fun _ _ _ => smallV (iffQ vB trivial)
  | andNot => exact .bad
theorem slsV (sz : Nat) (x : AV) (lo hi mx : Option AV) : isV (slsA sz x lo hi mx) := by
  cases x with
  | sn =>
    cases mx with
    | none =>
      show isV (optK lo 0 fun a => optK hi 0 fun b => iff (andB (Nat.beq a 0) (Nat.beq b 0)) (.v .sn))
      exact optKQ vB fun _ => optKQ vB fun _ => iffQ vB trivial
    | some _ => exact vB
  | sl b o l s cap =>
    refine iffQ vB ?_
    cases mx with
    | none =>
      show isV (sl2 b o l sz cap lo hi)
      refine optKQ vB fun _ => optKQ vB fun _ => ?_
      cases cap with
      | none => exact iffQ vB trivial
      | some _ => exact iffQ vB trivial
    | some m =>
      refine natKQ vB fun _ => optKQ vB fun _ => ?_
      cases hi with
      | none => exact vB
      | some _ =>
        refine natKQ vB fun _ => ?_
        cases cap with
        | none => exact iffQ vB (iffQ vB trivial)
        | some _ => exact iffQ vB trivial
  | _ => exact vB
theorem slsSV (x : AV) (lo hi : Option AV) : isV (slsS x lo hi) := by
  cases x with
  | s l n =>
    show isV (optK lo 0 fun a => optK hi l fun b => slS l n a b)
    exact optKQ vB fun _ => optKQ vB fun _ => iffQ vB trivial
  | _ => exact vB
theorem toBA_A (id : Nat) (v : AV) : isA (toBA id v) := by cases v <;> trivial
theorem comp_kind (o : Op) : KindOk (kind P o) (comp P kp o) := by
  cases o with
  | move x => exact .pure (fun _ _ _ _ => trivial) fun _ _ _ _ _ _ => rfl
  | assign x => exact .pure (fun _ _ _ _ => trivial) fun _ _ _ _ _ _ => rfl
  | pick c x y =>
    refine .pure (fun g l _ _ => ?_) fun _ _ _ _ _ _ => rfl
    show isV (pickA (ev g l (co kp c)) (ev g l (co kp x)) (ev g l (co kp y)))
    cases ev g l (co kp c) with
    | b x => cases x <;> trivial
    | _ => trivial
  | alloc t =>
    show KindOk 2 (zeroK P t fun z => sNew (cellsOf z))
    exact .zero fun z => .new (fun _ _ _ _ => trivial) fun _ _ _ _ _ => rfl
  | box t x => exact .new (fun _ _ _ _ => iffQ aB trivial) fun _ _ _ _ _ => rfl
  | build t ps =>
    show KindOk 0 _
    simp only [comp]; split
    · exact .sz (.zero fun z => .pure (fun _ _ _ _ => fillAQ (Q := isV) vB (fun _ => by trivial) _ _) fun _ _ _ _ _ _ => rfl)
    · exact .sz (.zero fun z => .pure (fun _ _ _ _ => fillAQ (Q := isV) vB (fun _ => by trivial) _ _) fun _ _ _ _ _ _ => rfl)
    · exact .bad
  | buildSlice t n ps =>
    show KindOk 2 _
    simp only [comp]; split
    · exact .sz (.bsl (.z fun z => .new (fun _ _ _ _ => fillAQ (Q := isA) aB (fun _ => by trivial) _ _) fun _ _ _ _ _ => rfl))
    · exact .bad
  | load t x =>
    show KindOk 1 _
    simp only [comp, cLoad]; split
    · exact .bad
    · refine .rd fun t v => ?_
      cases v with
      | p b o => exact cellsAtQ vB fun _ => cutKQ (Q := isV) vB fun _ => by trivial
      | _ => exact vB
    · refine .rd fun t v => ?_
      cases v with
      | p b o => exact cellsAtQ vB fun _ => knownQ vB trivial
      | _ => exact vB
  | nilCheck x =>
    refine .un fun v => ?_
    cases v with
    | p _ _ => trivial
    | f fn a b => cases fn <;> trivial
    | _ => exact vB
  | binOp op t x y p => exact bin_kind op t _ _
  | unOp op t x =>
    show KindOk 0 _
    cases op with
    | not => exact .un fun v => by cases v <;> trivial
    | neg => exact .un fun v => intKQ vB fun _ _ => trivial
    | xor => exact .un fun v => intKQ vB fun _ _ => natIQ vB fun _ => iffQ vB trivial
    | plus => exact .bad
  | convert s d x =>
    simp only [kind, comp, cconv]
    split
    · split
      · rename_i h1 h2 _ _ _ _ h3 h4; rw [h1] at h3; cases h3
      · rename_i h1 h2 _ _ h3 h4; rw [h2] at h4; cases h4
      · exact .byte (.new (fun _ _ _ _ => toBA_A _ _) fun _ _ _ _ _ => rfl)
      · rename_i h1 h2 _ _ _ h3 h4; rw [h1] at h3; cases h3
      · exact .bad
    · split
      · rename_i h1 h2 _ _ _ _ h3 h4; rw [h1] at h3; cases h3
      · rename_i h1 h2 _ _ h3 h4; rw [h1] at h3; cases h3
      · rename_i h1 h2 _ _ _ h3 h4; rw [h1] at h3; cases h3
      · exact .byte (.rd fun t v => by
          cases v with
          | sn => trivial
          | sl b o l s c => exact cellsAtQ vB fun _ => cutKQ vB fun _ => byteKQ (Q := isV) vB (fun _ => by trivial) _ _
          | _ => exact vB)
      · exact .bad
    · rename_i hn1 hn2
      split
      · exact .un fun v => intKQ vB fun _ _ => trivial
      · exact .un fun v => by cases v <;> trivial
      · rename_i h3 h4; exact (hn1 _ h3 h4).elim
      · rename_i h3 h4; exact (hn2 _ h3 h4).elim
      · exact .bad
  | makeInterface t x => exact .notIf (.pure (fun _ _ _ _ => trivial) fun _ _ _ _ _ _ => rfl)
  | makeFunc fn xs ys => exact .pure (fun _ _ _ _ => trivial) fun _ _ _ _ _ _ => rfl
  | makeMap t r =>
    show KindOk 2 _
    have hm : KindOk 2 sMkmap := .new (fun _ _ _ _ => trivial) fun _ _ _ _ _ => rfl
    cases r with
    | none => exact hm
    | some r =>
      cases r with
      | const v =>
        cases v with
        | int k n =>
          simp only [comp]; split
          · exact hm
          · exact .bad
        | _ => exact .bad
      | _ => exact .bad
  | makeSlice t x y =>
    show KindOk 2 _
    simp only [comp]; split
    · exact .sz (.by_ (.z fun z => .new (fun _ _ _ _ => natKQ aB fun _ => natKQ aB fun _ => iffQ aB trivial) fun _ _ _ _ _ => rfl))
    · exact .bad
  | slice t x lo hi mx =>
    show KindOk 0 _
    simp only [comp]; split
    · exact .sz (.pure (fun _ _ _ _ => slsV _ _ _ _ _) fun _ _ _ _ _ _ => rfl)
    · split
      · exact .pure (fun _ _ _ _ => slsSV _ _ _) fun _ _ _ _ _ _ => rfl
      · exact .bad
    · exact .bad
  | fieldAddr s x f =>
    show KindOk 0 _
    simp only [comp]; split
    · exact .sz (.un fun v => by cases v <;> trivial)
    · exact .bad
  | field s x f =>
    show KindOk 0 _
    simp only [comp, cField]; split
    · split
      · exact .bad
      · exact .un fun v => by
          cases v with
          | ag cs =>
            show isV (cutK cs _ _ fun r => .v (.ag r))
            exact cutKQ (Q := isV) vB fun _ => by trivial
          | _ => exact vB
      · exact .un fun v => by
          cases v with
          | ag cs => exact knownQ vB trivial
          | _ => exact vB
    · exact .bad
  | indexAddr t x y =>
    show KindOk 0 _
    simp only [comp]; split
    · exact .sz (.du fun v u => by
        cases v with
        | sl b o l s c => exact natKQ vB fun _ => iffQ vB trivial
        | _ => exact vB)
    · exact .sz (.du fun v u => by
        cases v with
        | p b o => exact natKQ vB fun _ => iffQ vB trivial
        | _ => exact vB)
    · exact .bad
  | index t x y =>
    show KindOk 0 _
    simp only [comp]; split
    · exact .du fun v u => by
        cases v with
        | s l n => exact natKQ vB fun _ => iffQ vB trivial
        | _ => exact vB
    · exact .bad
  | lookup t x y ok =>
    show KindOk 1 _
    simp only [comp]; split
    · refine .key fun q => .zero fun z => .read (fun g l h id => ?_) fun _ _ _ _ _ => rfl
      show isV (lookA h q z ok (ev g l (co kp x)) (ev g l (co kp y)))
      have hv : ∀ r, isV (lookV z ok r) := fun r => by cases r <;> trivial
      refine selfKQ vB ?_
      cases ev g l (co kp x) with
      | mn => exact hv none
      | m b => exact mapAtQ vB fun _ _ => findMQ vB hv _ _
      | _ => exact vB
    · exact .bad
  | entry x =>
    refine .rd fun t v => ?_
    cases v with
    | p b o =>
      refine iffQ vB (itAtQ vB fun m _ seen _ => ?_)
      cases m with
      | none => exact vB
      | some b =>
        refine mapAtQ vB fun es c => ?_
        cases lastN seen with
        | none => exact vB
        | some _ => exact iffQ vB (entV _ _)
    | _ => exact vB
  | typeAssert x xt t ok =>
    show KindOk 0 _
    cases ok with
    | true => exact .bad
    | false => exact .notIf (.un fun v => by
        cases v with
        | ic t' v => exact iffQ vB trivial
        | _ => exact vB)
  | extract x i =>
    exact .un fun v => by
      cases v with
      | tu l => exact knownQ vB trivial
      | _ => exact vB
  | call c =>
    simp only [kind, comp, ccall]
    cases hc : c.callee with
    | value o => exact .three
    | invoke r n => exact .three
    | builtin b =>
      simp only
      cases b with
      | len =>
        show KindOk 1 _
        generalize cos kp c.args = xs
        match xs with
        | [] => exact .bad
        | _ :: _ :: _ => exact .bad
        | [x] =>
          simp only [cbuiltin]
          split
          · unfold lenK; split
            · exact .un1 fun v => by cases v <;> trivial
            · exact .un1 fun v => by cases v <;> trivial
            · exact .rd fun t v => by
                cases v with
                | mn => trivial
                | m b => exact mapAtQ (Q := isV) vB fun _ _ => by trivial
                | _ => exact vB
            · exact .bad
          · exact .bad
      | cap =>
        show KindOk 0 _
        generalize cos kp c.args = xs
        match xs with
        | [] => exact .bad
        | _ :: _ :: _ => exact .bad
        | [x] =>
          simp only [cbuiltin]
          split
          · split
            · exact .un fun v => by
                cases v with
                | sl b o l s c => cases c <;> trivial
                | sn => trivial
                | _ => exact vB
            · exact .bad
          · exact .bad
      | min =>
        show KindOk 0 (sMin _)
        exact .pure (fun g l _ _ => by
          show isV (minA (evL g l _))
          generalize evL g l _ = r
          cases r with
          | nil => trivial
          | cons x r => exact intKQ vB fun _ _ => minV _ _ _) fun _ _ _ _ _ _ => rfl
      | max =>
        show KindOk 0 (sMax _)
        exact .pure (fun g l _ _ => by
          show isV (maxA (evL g l _))
          generalize evL g l _ = r
          cases r with
          | nil => trivial
          | cons x r => exact intKQ vB fun _ _ => maxV _ _ _) fun _ _ _ _ _ _ => rfl
      | _ => exact .three
  | _ => exact .three
end
end Go.Proofs.YtegafdkhbgojcaaGreatDoor.Ex
