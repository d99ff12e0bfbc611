/- Contracts of the package pith in pieces of memory: writers, a reader. No condition. -/
import Derived.Test.YtecpfnobnpddaaaDoorSep
import Derived.Test.YtecpfnobnpddaaaDoorPithd
set_option linter.unusedVariables false
namespace Go.Proofs.YtecpfnobnpddaaaDoor
open Go.RowKit

/-- bytes that are written on -/
def bytesA (v : Value) (l : List UInt8) : Asn := rowA 5 1 v l.length (Bs l)
section
variable {g w w' : World} {L : List Asn} {v v' : Value} {l : List UInt8}
theorem Sat.rowB (S : Sat g w (bytesA v l :: L)) : RowB w v l := Sat.row S
theorem Sat.bytesNil (S : Sat g w L) : Sat g w (bytesA (.slice none 0 0) [] :: L) := S.nilRow _ _
theorem Sat.bytesForm (S : Sat g w (bytesA v l :: L)) : ∃ A n cap, v = .slice A n cap ∧ Src w 1 A n (Bs l) := by
  obtain ⟨A, cap, h1, h2, h3, h4⟩ := S.rowB.form
  exact ⟨A, _, cap, h1, h4⟩
/-- a list that was made for a call lies apart from the bytes -/
theorem Sat.offList {b : Nat} {t : TypeId} {cs : Array Value} (S : Sat g w (cellsA b t cs :: bytesA v l :: L)) : Off (fun k => v.ownBlock = some k) (some ⟨b, 0, none⟩) := by
  intro ad he hv
  cases he
  obtain ⟨h, ⟨h1, h2, c1, rfl, ⟨o, ho, rfl⟩, ⟨h3, h4, c2, rfl, ⟨_, a⟩, _⟩⟩, m⟩ := S.mem
  rcases a with ⟨rfl, _, rfl⟩ | ⟨b', cap, cur, rfl, q1, q2, q3, q4, rfl⟩
  · simp [Value.ownBlock] at hv
  · injection hv with hv
    simp only at hv
    subst hv
    have := c1 b'
    simp [compat, hone, hjoin] at this
theorem s_num (ns : List Int) {m b : Nat} (S : Sat g w (cellsA b 3 (Is ns).toArray :: bytesA v l :: L)) (hm : ns.length = m) (hl : l.length ≤ 100000000) (hm2 : m ≤ 1000) :
    Calls Tryd.prog 52 #[v, .slice (some ⟨b, 0, none⟩) m m] w fun e w' => ∃ v', e = .returned v' ∧ Sat g w' (bytesA v' (l ++ nums ns) :: L) := by
  subst hm
  refine (num_any w v _ l S.drop.rowB _ ns _ (Src.block S.cells_get 1 ns.length (by simp)) S.offList (by omega)).mono ?_
  rintro e w' ⟨v', rfl, h1, h2⟩
  exact ⟨v', rfl, Sat.grew S.drop (RowB.of h1) h2⟩
theorem s_text (ss : List (List UInt8)) {m b : Nat} (S : Sat g w (cellsA b 9 (Ss ss).toArray :: bytesA v l :: L)) (hm : ss.length = m) (hl : l.length ≤ 100000000) (hm2 : m ≤ 1000) :
    Calls Tryd.prog 54 #[v, .slice (some ⟨b, 0, none⟩) m m] w fun e w' => ∃ v', e = .returned v' ∧ Sat g w' (bytesA v' (l ++ txts ss) :: L) := by
  subst hm
  refine (text_any w v _ l S.drop.rowB _ ss _ (Src.block S.cells_get 1 ss.length (by simp)) S.offList (by omega)).mono ?_
  rintro e w' ⟨v', rfl, h1, h2⟩
  exact ⟨v', rfl, Sat.grew S.drop (RowB.of h1) h2⟩
theorem s_flag (fs : List Bool) {m b : Nat} (S : Sat g w (cellsA b 4 (Fs fs).toArray :: bytesA v l :: L)) (hm : fs.length = m) (hl : l.length ≤ 100000000) (hm2 : m ≤ 1000) :
    Calls Tryd.prog 53 #[v, .slice (some ⟨b, 0, none⟩) m m] w fun e w' => ∃ v', e = .returned v' ∧ Sat g w' (bytesA v' (l ++ flags fs) :: L) := by
  subst hm
  refine (flag_any w v _ l S.drop.rowB _ fs _ (Src.block S.cells_get 1 fs.length (by simp)) S.offList (by omega)).mono ?_
  rintro e w' ⟨v', rfl, h1, h2⟩
  exact ⟨v', rfl, Sat.grew S.drop (RowB.of h1) h2⟩

/-! ### the reader -/
def rdA (r : Nat) (x : RS) : Asn := fun h => x.1.length ≤ 9223372036854775807 ∧ cellsA r 87 #[.string (S x.1), .bool x.2] h
variable {r : Nat} {x x' : RS}
theorem Sat.rd_le (S : Sat g w (rdA r x :: L)) : x.1.length ≤ 9223372036854775807 := by
  obtain ⟨h, ⟨h1, h2, c1, rfl, a, _⟩, m⟩ := S.mem
  exact a.1
theorem Sat.rd (S : Sat g w (rdA r x :: L)) : Rd w r x := Sat.cells_get (L := L) (S.head fun _ a => a.2)
theorem Sat.rdPut (S : Sat g w (rdA r x :: L)) (hk : Keeps (fun k => k = r) w w') (hr : Rd w' r x') (hx : x'.1.length ≤ x.1.length) : Sat g w' (rdA r x' :: L) :=
  have h1 := S.rd_le
  (Sat.own_put (Φ' := fun o => o = .cells #[.string (Go.Proofs.YtecpfnobnpddaaaDoor.S x'.1), .bool x'.2] 87 (0, 0)) (S.head (A' := cellsA r _ _) fun _ a => a.2) hk hr rfl).head fun _ a => ⟨by omega, a⟩
theorem s_rnum (most : Int) (S : Sat g w (rdA r x :: L)) :
    Calls Tryd.prog 45 #[ptr r, .int .i64 most] w fun e w' => e = .returned (.int .i64 (rn x most).1) ∧ Sat g w' (rdA r (rn x most).2 :: L) := by
  refine (num_reads w r most x S.rd_le S.rd).mono ?_
  rintro e w' ⟨rfl, h1, h2⟩
  exact ⟨rfl, S.rdPut h2 h1 (rn_le _ _)⟩
theorem s_rtext (most : Int) (S : Sat g w (rdA r x :: L)) :
    Calls Tryd.prog 46 #[ptr r, .int .i64 most] w fun e w' => e = .returned (.string (Go.Proofs.YtecpfnobnpddaaaDoor.S (rt x most).1)) ∧ Sat g w' (rdA r (rt x most).2 :: L) := by
  refine (text_reads w r most x S.rd_le S.rd).mono ?_
  rintro e w' ⟨rfl, h1, h2⟩
  exact ⟨rfl, S.rdPut h2 h1 (rt_le _ _)⟩
theorem s_rflag (S : Sat g w (rdA r x :: L)) :
    Calls Tryd.prog 47 #[ptr r] w fun e w' => e = .returned (.bool (rf x).1) ∧ Sat g w' (rdA r (rf x).2 :: L) := by
  refine (flag_reads w r x S.rd_le S.rd).mono ?_
  rintro e w' ⟨rfl, h1, h2⟩
  refine ⟨rfl, S.rdPut h2 h1 ?_⟩
  unfold rf
  split
  · exact tk_le x 1
  · split
    · simp [fl]
    · exact tk_le x 1
theorem s_rdone (S : Sat g w (rdA r x :: L)) :
    Calls Tryd.prog 21 #[ptr r] w fun e w' => e = .returned (.int .i64 (rdone x)) ∧ Sat g w' (rdA r x :: L) := by
  refine (done_reads w r x S.rd).mono ?_
  rintro e w' ⟨rfl, rfl⟩
  exact ⟨rfl, S⟩
theorem s_rok (S : Sat g w (rdA r x :: L)) :
    Calls Tryd.prog 19 #[ptr r] w fun e w' => e = .returned (.bool (!x.2)) ∧ Sat g w' (rdA r x :: L) := by
  refine (ok_reads w r x S.rd).mono ?_
  rintro e w' ⟨rfl, rfl⟩
  exact ⟨rfl, S⟩
theorem s_rfail (S : Sat g w (rdA r x :: L)) :
    Calls Tryd.prog 49 #[ptr r] w fun e w' => e = .returned (.tuple #[]) ∧ Sat g w' (rdA r fl :: L) := by
  refine (fail_any w r x S.rd).mono ?_
  rintro e w' ⟨rfl, h1, h2⟩
  exact ⟨rfl, S.rdPut h2 h1 (by simp [fl])⟩
theorem s_read (S : Sat g w L) (s : List UInt8) (hs : s.length ≤ 9223372036854775807) :
    Calls Tryd.prog 17 #[.string (Go.Proofs.YtecpfnobnpddaaaDoor.S s)] w fun e w' => ∃ r, e = .returned (ptr r) ∧ Sat g w' (rdA r (s, false) :: L) := by
  refine (read_reads w s).mono ?_
  rintro e w' ⟨rfl, rfl⟩
  exact ⟨_, rfl, (S.box _ _ rfl).head fun _ a => ⟨hs, a⟩⟩
end

end Go.Proofs.YtecpfnobnpddaaaDoor
