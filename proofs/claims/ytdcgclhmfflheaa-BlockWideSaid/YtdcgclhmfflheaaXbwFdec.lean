import Derived.Test.YtdcgclhmfflheaaXbwFrd
import Derived.Test.YtdcgclhmfflheaaXbwFstr
import Derived.Test.YtdcgclhmfflheaaXbwPQf25
import Derived.Test.YtdcgclhmfflheaaXbwPQf26
import Derived.Test.YtdcgclhmfflheaaXbwPQf22
namespace Go.Proofs.Ytdcgclhmfflheaa.PQ
open Go.RowKit Go.Proofs.YtdcgclhmfflheaaW.PrintWords Go.Proofs.YtdcgclhmfflheaaW.PrintLast Go.Proofs.YtdcgclhmfflheaaW.PrintMore
set_option linter.unusedVariables false
set_option linter.unusedSimpArgs false
def numI (bs : List Int) : Int := (numF bs bs.length).getD 0
def dKind0 (l : List Int) (i : Nat) : S56 := ⟨numI ((l.drop (6 * i)).take 4), l.getD (6 * i + 4) 0 == 1, ⟨#[]⟩⟩
def dName (names : List Int) (at_ : Int) : ByteArray × Bool := (octets_Name.f names at_).getD (⟨#[]⟩, false)
def dKind (l names : List Int) (i : Nat) : S56 := ⟨numI ((l.drop (6 * i)).take 4), l.getD (6 * i + 4) 0 == 1, (dName names (l.getD (6 * i + 5) 0)).1⟩
def dJump (l m : List Int) (sz i : Nat) : S54 := ⟨numI ((l.drop (sz * i)).take sz), m.getD i 0⟩
def dLeap (l : List Int) (sz i : Nat) : S87 := ⟨numI ((l.drop ((sz + 4) * i)).take sz), numI ((l.drop ((sz + 4) * i + sz)).take 4)⟩
structure DParts where
 kinds : List S56
 jumps : List S54
 leaps : List S87
 std : List Bool
 ut : List Bool
 ok : Bool
def dparts (b : List Int) (ut std leap time type char : Nat) (sz : Nat) : DParts :=
 let l1 := b.drop (sz * time)
 let l2 := l1.drop time
 let l3 := l2.drop (6 * type)
 let names := l3.take char
 let l4 := l3.drop char
 let l5 := l4.drop ((sz + 4) * leap)
 let l6 := l5.drop std
 { kinds := (List.range type).map (dKind l2 names), jumps := (List.range time).map (dJump b l1 sz), leaps := (List.range leap).map (dLeap l4 sz),
   std := (l5.take std).map (· == 1), ut := (l6.take ut).map (· == 1),
   ok := marksOk (l6.take ut) (marksOk (l5.take std) ((List.range type).all fun i => decide (l2.getD (6 * i + 4) 0 < 2) && (dName names (l2.getD (6 * i + 5) 0)).2)) }
def block_Decode.f (l0 : List Int) (a1_0 a1_1 a1_2 a1_3 a1_4 a1_5 a1_6 a2 : Int) : Option (List S56 × List S54 × List S87 × List Bool × List Bool × Int) :=
 if a2 ≠ 4 ∧ a2 ≠ 8 then some ([], [], [], [], [], 1) else
 (header_Right.f a1_0 a1_1 a1_2 a1_3 a1_4 a1_5 a1_6).bind fun right =>
 if right = false then some ([], [], [], [], [], 1) else
 (header_Body.f a1_0 a1_1 a1_2 a1_3 a1_4 a1_5 a1_6 a2).bind fun n =>
 if (l0.length : Int) < n then some ([], [], [], [], [], 5) else
 if bytesOk l0 then
  let p := dparts (l0.take n.toNat) a1_1.toNat a1_2.toNat a1_3.toNat a1_4.toNat a1_5.toNat a1_6.toNat a2.toNat
  if p.ok = false then some ([], [], [], [], [], 4) else
  (block_Right.f 40000 p.kinds p.jumps p.leaps p.std p.ut a2 a1_0).bind fun r =>
  if r = true then some (p.kinds, p.jumps, p.leaps, p.std, p.ut, 0) else some ([], [], [], [], [], 4)
 else none
structure HdrBd (ver ut std leap time type char : Int) : Prop where
 v0 : 1 ≤ ver
 v1 : ver ≤ 4
 ty0 : 1 ≤ type
 ty1 : type ≤ 256
 c0 : 1 ≤ char
 c1 : char ≤ 256
 ti0 : 0 ≤ time
 ti1 : time ≤ 5000
 le0 : 0 ≤ leap
 le1 : leap ≤ 5000
 u : ut = 0 ∨ ut = type
 s : std = 0 ∨ std = type
theorem within_some (a b c : Int) : header_within.f a b c = some (decide (b ≤ a ∧ a ≤ c)) := by
 unfold header_within.f
 by_cases h : a ≥ b
 ·
  rw [if_pos h]; congr 1; simp; intro _; exact h
 ·
  rw [if_neg h]; congr 1; simp; intro h'; exact absurd h' h
theorem hdr_bd {ver ut std leap time type char : Int} (h : header_Right.f ver ut std leap time type char = some true) : HdrBd ver ut std leap time type char := by
 unfold header_Right.f at h
 simp only [within_some, Option.bind_some] at h
 by_cases h1 : 1 ≤ ver ∧ ver ≤ 4 <;> simp [h1] at h
 by_cases h2 : 1 ≤ type ∧ type ≤ 256 <;> simp [h2] at h
 by_cases h3 : 1 ≤ char ∧ char ≤ 256 <;> simp [h3] at h
 by_cases h4 : 0 ≤ time ∧ time ≤ 5000 <;> simp [h4] at h
 by_cases h5 : 0 ≤ leap ∧ leap ≤ 5000 <;> simp [h5] at h
 refine ⟨h1.1, h1.2, h2.1, h2.2, h3.1, h3.2, h4.1, h4.2, h5.1, h5.2, ?_, ?_⟩
 ·
  by_cases e : ut = 0
  ·
   exact .inl e
  ·
   right
   by_cases e2 : ut = type
   ·
    exact e2
   ·
    simp [e, e2] at h
 ·
  by_cases e : std = 0
  ·
   exact .inl e
  ·
   right
   by_cases e3 : ut = 0
   ·
    simpa [e, e3] using h
   ·
    by_cases e2 : ut = type
    ·
     simp [e, e3, e2] at h
     first | exact h | (split at h <;> simp_all)
    ·
     simp [e3, e2] at h
theorem body_eq {ver ut std leap time type char sz : Int} (h : HdrBd ver ut std leap time type char) (hs : sz = 4 ∨ sz = 8) :
  header_Body.f ver ut std leap time type char sz = some (time * (sz + 1) + type * 6 + char + leap * (sz + 4) + std + ut) := by
 obtain ⟨v0, v1, ty0, ty1, c0, c1, ti0, ti1, le0, le1, u, s⟩ := h
 unfold header_Body.f
 have w0 : ∀ n : Int, -1000000 ≤ n → n ≤ 1000000 → wrap64 n = n := fun n a b => by unfold wrap64; omega
 congr 1
 rcases hs with rfl | rfl
 ·
  have e1 : wrap64 ((4 : Int) + 1) = 5 := by unfold wrap64; rfl
  have e2 : wrap64 ((4 : Int) + 4) = 8 := by unfold wrap64; rfl
  rw [e1, e2, w0 (time * 5) (by omega) (by omega), w0 (type * 6) (by omega) (by omega), w0 (leap * 8) (by omega) (by omega), w0 (time * 5 + type * 6) (by omega) (by omega), w0 (time * 5 + type * 6 + char) (by omega) (by omega), w0 (time * 5 + type * 6 + char + leap * 8) (by omega) (by omega), w0 (time * 5 + type * 6 + char + leap * 8 + std) (by omega) (by omega), w0 _ (by omega) (by omega)]
  omega
 ·
  have e1 : wrap64 ((8 : Int) + 1) = 9 := by unfold wrap64; rfl
  have e2 : wrap64 ((8 : Int) + 4) = 12 := by unfold wrap64; rfl
  rw [e1, e2, w0 (time * 9) (by omega) (by omega), w0 (type * 6) (by omega) (by omega), w0 (leap * 12) (by omega) (by omega), w0 (time * 9 + type * 6) (by omega) (by omega), w0 (time * 9 + type * 6 + char) (by omega) (by omega), w0 (time * 9 + type * 6 + char + leap * 12) (by omega) (by omega), w0 (time * 9 + type * 6 + char + leap * 12 + std) (by omega) (by omega), w0 _ (by omega) (by omega)]
  omega
def DecPost (r1 : List S56) (r2 : List S54) (r3 : List S87) (r4 r5 : List Bool) (r6 : Int) (w : World) (e : Ending) (w' : World) : Prop :=
 ∃ v0_ v1_ v2_ v3_ v4_ : Value, e = .returned (.tuple #[.agg #[v0_, v1_, v2_, v3_, v4_], .int .i64 r6]) ∧ Kd.R k56 56 w' w.heap.size (fun _ => True) v0_ r1 ∧ Kd.R k54 54 w' w.heap.size (fun _ => True) v1_ r2 ∧ Kd.R k87 87 w' w.heap.size (fun _ => True) v2_ r3 ∧ Kd.R Kd.bool 4 w' w.heap.size (fun k_ => some k_ ≠ (v4_ : Value).ownBlock) v3_ r4 ∧ Kd.R Kd.bool 4 w' w.heap.size (fun k_ => some k_ ≠ (v3_ : Value).ownBlock) v4_ r5 ∧ Below w.heap.size w w'
theorem DecPost.none_ {c : Int} {w w' : World} (h : Below w.heap.size w w') : DecPost [] [] [] [] [] c w (.returned (.tuple #[.agg #[.slice none 0 0, .slice none 0 0, .slice none 0 0, .slice none 0 0, .slice none 0 0], .int .i64 c])) w' :=
 ⟨_, _, _, _, _, rfl, Kd.R_nil _ _ _ _ _, Kd.R_nil _ _ _ _ _, Kd.R_nil _ _ _ _ _, Kd.R_nil _ _ _ _ _, Kd.R_nil _ _ _ _ _, h⟩
set_option maxHeartbeats 2000000 in
set_option maxRecDepth 100000 in
theorem dec_size (A0 : Option Addr) (c0 : Nat) (l0 : List Int) (a1_0 a1_1 a1_2 a1_3 a1_4 a1_5 a1_6 a2 : Int) (w : World) (h4 : a2 ≠ 4) (h8 : a2 ≠ 8) :
  Calls Try.prog 27 #[.slice A0 l0.length c0, .agg #[.int .i64 a1_0, .int .i64 a1_1, .int .i64 a1_2, .int .i64 a1_3, .int .i64 a1_4, .int .i64 a1_5, .int .i64 a1_6], .int .i64 a2] w (DecPost [] [] [] [] [] 1 w) := by
 have d4 : (a2 != 4) = true := by simp [h4]
 have d8 : (a2 != 8) = true := by simp [h8]
 clear h4 h8
 have hu27 := Try.underlying27
 have hu35 := Try.underlying35
 go_enter Try.func27, Try.ntmps27
 go_wp2_with (first
  | ((with_reducible refine gate_dst (N := 4) rfl ?_); refine box_event ?hg (N := 4) ?hd (cs := #[.int .i64 a1_0, .int .i64 a1_1, .int .i64 a1_2, .int .i64 a1_3, .int .i64 a1_4, .int .i64 a1_5, .int .i64 a1_6]) (t := 35) ?hr ?_; (case hd => rfl); (case hg => rfl); (case hr => first | (go_simp; done) | (go_simp; rfl)); intro gh hgh w1 hbox hb1; have HGH := Aside0.mk hgh; have HBOX := Aside0.mk hbox; have HB1 := Aside0.mk hb1; clear hgh hbox hb1)
  | ((with_reducible refine gate_dst (N := 6) rfl ?_); refine box_event ?hg2 (N := 6) ?hd2 (cs := #[.slice none 0 0, .slice none 0 0, .slice none 0 0, .slice none 0 0, .slice none 0 0]) (t := 27) ?hr2 ?_; (case hd2 => rfl); (case hg2 => rfl); (case hr2 => first | (go_simp; done) | (go_simp; rfl)); intro gx hgx w2 hbox2 hb2; have HGX := Aside0.mk hgx; have HBOX2 := Aside0.mk hbox2; have HB2 := Aside0.mk hb2; have z0 : w2.cell? ⟨gx, 0, none⟩ = some (.slice none 0 0) := (by rw [Lib.cell_of_heap hbox2]; rfl); have z1 : w2.cell? ⟨gx, 1, none⟩ = some (.slice none 0 0) := (by rw [Lib.cell_of_heap hbox2]; rfl); have z2 : w2.cell? ⟨gx, 2, none⟩ = some (.slice none 0 0) := (by rw [Lib.cell_of_heap hbox2]; rfl); have z3 : w2.cell? ⟨gx, 3, none⟩ = some (.slice none 0 0) := (by rw [Lib.cell_of_heap hbox2]; rfl); have z4 : w2.cell? ⟨gx, 4, none⟩ = some (.slice none 0 0) := (by rw [Lib.cell_of_heap hbox2]; rfl); have f0 : w2.frozen? ⟨gx, 0, none⟩ = false := (by simp [World.frozen?, hbox2]); have f1 : w2.frozen? ⟨gx, 1, none⟩ = false := (by simp [World.frozen?, hbox2]); have f2 : w2.frozen? ⟨gx, 2, none⟩ = false := (by simp [World.frozen?, hbox2]); have f3 : w2.frozen? ⟨gx, 3, none⟩ = false := (by simp [World.frozen?, hbox2]); have f4 : w2.frozen? ⟨gx, 4, none⟩ = false := (by simp [World.frozen?, hbox2]); clear hgx hbox2 hb2))
 refine bodyPost_ret (v := .tuple #[.agg #[.slice none 0 0, .slice none 0 0, .slice none 0 0, .slice none 0 0, .slice none 0 0], .int .i64 1]) (by simp [results, Try.results27, go_sem, z0, z1, z2, z3, z4]) rfl ?_
 refine DecPost.none_ ?_
 have hg : w.heap.size ≤ gx := by rw [HGX.out]; exact HB1.out.size
 exact ((((((HB1.out).trans (HB2.out.mono HB1.out.size)).setCell hg _).setCell hg _).setCell hg _).setCell hg _).setCell hg _
end Go.Proofs.Ytdcgclhmfflheaa.PQ
