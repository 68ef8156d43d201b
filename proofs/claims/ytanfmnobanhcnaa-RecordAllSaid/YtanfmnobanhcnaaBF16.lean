/- THE FUNCTIONS' EQUATIONS: record.Put. -/
import Derived.Test.YtanfmnobanhcnaaBF35
import Derived.Test.YtanfmnobanhcnaaBF60
set_option linter.all false
set_option maxRecDepth 100000
namespace Go.Ab
open Go.Proofs Go.Proofs.YtanfmnobanhcnaaH Go.Proofs.YtanfmnobanhcnaaH.Crc Go.Proofs.YtanfmnobanhcnaaH.Var Go.Proofs.YtanfmnobanhcnaaH.Fr Go.Proofs.YtanfmnobanhcnaaH.Rec
def c16 : Fn' := ⟨51, [(.tmp 2), (.tmp 3)], (.seq (.reg none [⟨(some 1), none, (.box true (.t 0))⟩, ⟨(some 2), none, (.mv (.k nilS))⟩, ⟨(some 3), none, (.mv (.k (.bool false)))⟩]) (.seq (.seq (.reg none [⟨(some 6), none, (.ld (some 7) (.t 1))⟩, ⟨(some 7), none, (.call (.f 33) [(.t 6)])⟩, ⟨(some 8), none, (.un .not (.t 7))⟩]) (.cond (.t 8) (.seq (.reg none [⟨(some 2), none, (.mv (.k nilS))⟩, ⟨(some 3), none, (.mv (.k (.bool false)))⟩]) .ret) .skip)) (.seq (.reg none [⟨(some 9), none, (.fa 0 1 false (.t 1))⟩, ⟨(some 10), none, (.ld none (.t 9))⟩, ⟨(some 11), none, (.cvt (.int .u8) (.t 10))⟩, ⟨(some 12), none, (.bsl false 1 1 [(.int .u8 0)] [(0, (.t 11))])⟩, ⟨(some 13), none, (.bld [nilS] [(0, (1, (.t 12)))])⟩, ⟨(some 14), none, (.box true (.t 13))⟩, ⟨(some 4), none, (.mv (.t 14))⟩]) (.seq (.seq (.reg none [⟨(some 15), none, (.fa 0 1 false (.t 1))⟩, ⟨(some 16), none, (.ld none (.t 15))⟩, ⟨(some 17), none, (.bin .eql [] (.t 16) (.k (.int .i64 1)))⟩]) (.cond (.t 17) (.seq (.reg none [⟨(some 18), none, (.fa 1 4 true (.t 1))⟩, ⟨(some 19), none, (.ld (some 4) (.t 18))⟩, ⟨(some 20), none, (.call (.f 34) [(.t 19)])⟩, ⟨(some 5), none, (.mv (.t 20))⟩]) (.seq (.reg none [⟨(some 21), none, (.mv (.t 4))⟩, ⟨(some 22), none, (.mv (.t 5))⟩, ⟨(some 23), none, (.len 1 (.t 22))⟩, ⟨(some 24), none, (.call (.f 35) [(.t 21), (.t 23)])⟩]) (.reg none [⟨(some 25), none, (.mv (.t 4))⟩, ⟨(some 26), none, (.mv (.t 4))⟩, ⟨(some 27), none, (.nc (.t 26))⟩, ⟨(some 28), none, (.fa 0 1 false (.t 27))⟩, ⟨(some 29), none, (.ld none (.t 28))⟩, ⟨(some 30), none, (.mv (.t 5))⟩, ⟨(some 31), none, (.app 1 1 (.t 29) (.t 30))⟩, ⟨(some 32), none, (.nc (.t 25))⟩, ⟨(some 33), none, (.fa 0 1 false (.t 32))⟩, ⟨none, none, (.st 1 (.t 33) (.t 31))⟩]))) .skip)) (.seq (.reg none [⟨(some 34), none, (.mv (.t 4))⟩, ⟨(some 35), none, (.fa 6 1 false (.t 1))⟩, ⟨(some 36), none, (.ld none (.t 35))⟩, ⟨(some 37), none, (.call (.f 35) [(.t 34), (.t 36)])⟩]) (.seq (.seq (.reg none [⟨(some 38), none, (.fa 0 1 false (.t 1))⟩, ⟨(some 39), none, (.ld none (.t 38))⟩, ⟨(some 40), none, (.bin .neq [] (.t 39) (.k (.int .i64 2)))⟩]) (.cond (.t 40) (.reg none [⟨(some 41), none, (.fa 5 1 false (.t 1))⟩, ⟨(some 42), none, (.ld none (.t 41))⟩, ⟨(some 43), none, (.mv (.t 4))⟩, ⟨(some 44), none, (.fn 35 [(.t 43)] [])⟩, ⟨(some 45), none, (.call (.f 36) [(.t 42), (.t 44)])⟩]) .skip)) (.seq (.reg none [⟨(some 46), none, (.mv (.t 4))⟩, ⟨(some 47), none, (.nc (.t 46))⟩, ⟨(some 48), none, (.fa 0 1 false (.t 47))⟩, ⟨(some 49), none, (.ld none (.t 48))⟩, ⟨(some 50), none, (.call (.f 32) [(.t 49)])⟩, ⟨(some 2), none, (.mv (.t 50))⟩, ⟨(some 3), none, (.mv (.k (.bool true)))⟩]) .ret)))))))⟩
theorem k16 : compF Try.prog 16 = some c16 := by kernel_rfl
attribute [local simp] op_or op_an op_add op_eql op_neq op_lss op_gtr op_leq op_geq op_sub op_mul
attribute [-simp] intOp bin_shl
set_option maxHeartbeats 8000000 in
/-- record.Put: what may not be. -/
theorem K16_f (kd : Int) (c : Bool) (s : Nat) (ts : List Int) (k m g : Int) (c' : Bool) (s' : Nat) (ids : List Int) (id : Int) (hs : s = 1 ∨ ts = []) (hs' : s' = 1 ∨ ids = []) (hl : ts.length ≤ 2 ^ 30) (hl' : ids.length ≤ 2 ^ 30) (h : mayI kd ts k m g ids id = false) :
    K0 16 [Rcd kd c s ts k m g c' s' ids id] [] = some (.tuple [nilS, .bool false], []) := by
  refine K_call k16 (oraG_none (by decide) (by decide)) (by simp [c16, Rcd]) ?_
  have hK := K33 kd c s ts k m g c' s' ids id hs hs' (by omega) (by omega)
  rw [h] at hK
  unfold Rcd at hK ⊢
  rcases nil_or c s ts with ⟨rfl, rfl, rfl⟩ | h1 <;> rcases nil_or c' s' ids with ⟨rfl, rfl, rfl⟩ | h2
  · simp at hK
    simp [c16, hK]
  · simp at hK
    simp [c16, h2, hK]
  · simp at hK
    simp [c16, h1, hK]
  · simp [c16, h1, h2, hK]
set_option maxHeartbeats 8000000 in
theorem K16_1 (c : Bool) (ts : List Int) (k m g : Int) (c' : Bool) (s' : Nat) (ids : List Int) (id : Int) (hs' : s' = 1 ∨ ids = []) (h : mayI 1 ts k m g ids id = true) :
    K0 16 [Rcd 1 c 1 ts k m g c' s' ids id] [] = some (.tuple [.slc false 1 ((frameI (recB 1 ts k m g ids id)).map (.int .u8)), .bool true], []) := by
  refine K_call k16 (oraG_none (by decide) (by decide)) (by simp [c16, Rcd]) ?_
  have hm := mayI_some h
  have hok : schemaOk ts k m g = true := by
    rcases hm.1 with h | h | h
    · exact h.2
    · exact absurd h.1 (by decide)
    · exact absurd h.1 (by decide)
  have hsc := schemaOk_iff.1 hok
  have hK := K33 1 c 1 ts k m g c' s' ids id (.inl rfl) hs' (by omega) (by omega)
  rw [h] at hK
  have h34 := K34 c 1 ts k m g (by omega) (by
    intro x hx
    rcases List.mem_append.1 hx with hx | hx
    · have := hsc.2.1 x hx; omega
    · simp at hx
      rcases hx with rfl | rfl | rfl <;> omega)
  have hSl := putS_len ts k m g hok
  unfold Sd at h34
  have hrec : recB 1 ts k m g ids id = ([1] ++ putI (putS ts k m g).length ++ putS ts k m g ++ putI id) ++ putI ids.length ++ putAllI ids := by
    unfold recB
    simp
  have hB : isB (recB 1 ts k m g ids id) := isB_recB h
  have hrl := recB_len h
  have hfr := N32 (recB 1 ts k m g ids id) false hB (by omega)
  generalize hrr : recB 1 ts k m g ids id = rr at *
  have hpsn : ¬ putS ts k m g = [] := by
    intro e
    have := putI_ne ts.length
    unfold putS at e
    rw [allP_pos] at e
    exact this (List.append_eq_nil_iff.1 e).1
  obtain ⟨S, hS⟩ : ∃ S, putS ts k m g = S := ⟨_, rfl⟩
  rw [hS] at h34 hSl hrec hpsn
  have p1 := putI_len10 (S.length : Int) (by omega)
  have p2 := putI_len10 id (by omega)
  have p3 := putI_len10 (ids.length : Int) (by omega)
  have e1 := K35a [1] S.length (by simp) (by omega) (by omega)
  obtain ⟨A, hA⟩ : ∃ A, [1] ++ putI S.length = A := ⟨_, rfl⟩
  have hAl : A.length ≤ 11 := by rw [← hA]; simp; omega
  have e2 := K35b (A ++ S) id (by simp; omega) (by omega) (by omega)
  obtain ⟨B, hB2⟩ : ∃ B, A ++ S ++ putI id = B := ⟨_, rfl⟩
  have hBl : B.length ≤ 701 := by rw [← hB2]; simp; omega
  have e3 := K36 c' s' ids hs' B (by omega) (by omega) (fun x hx => by have := hm.2.2.2 x hx; omega)
  have hR : B ++ putI ids.length ++ putAllI ids = rr := by rw [hrec, ← hB2, ← hA]
  rw [hR] at e3
  rw [hA] at e1
  rw [hB2] at e2
  have b1 : A.length + S.length ≤ 70368744177664 := by omega
  have w1 : IntKind.u8.wrap 1 = 1 := by decide
  simp only [W0, W1, List.map_cons, List.map_nil] at e1 e2 e3
  simp only [List.map_append, List.length_append] at e2
  unfold Rcd at hK ⊢
  rcases nil_or c 1 ts with ⟨_, h0, _⟩ | h1
  · cases h0
  rcases nil_or c' s' ids with ⟨rfl, rfl, rfl⟩ | h2
  · simp at hK e3
    simp [c16, h1, hK, h34, e1, e2, e3, hfr, w1, b1, hpsn, backK, List.take_of_length_le]
  · simp [c16, h1, h2, hK, h34, e1, e2, e3, hfr, w1, b1, hpsn, backK, List.take_of_length_le]
set_option maxHeartbeats 8000000 in
theorem K16_2 (c : Bool) (s : Nat) (c' : Bool) (s' : Nat) (id : Int) (h : mayI 2 [] 0 0 0 [] id = true) :
    K0 16 [Rcd 2 c s [] 0 0 0 c' s' [] id] [] = some (.tuple [.slc false 1 ((frameI (recB 2 [] 0 0 0 [] id)).map (.int .u8)), .bool true], []) := by
  refine K_call k16 (oraG_none (by decide) (by decide)) (by simp [c16, Rcd]) ?_
  have hm := mayI_some h
  have hK := fun c s c' s' => K33 2 c s [] 0 0 0 c' s' [] id (.inr rfl) (.inr rfl) (by simp) (by simp)
  rw [h] at hK
  have hrec : recB 2 [] 0 0 0 [] id = [2] ++ putI id := by unfold recB; simp
  have hB : isB (recB 2 [] 0 0 0 [] id) := isB_recB h
  have hrl := recB_len h
  have hfr := N32 (recB 2 [] 0 0 0 [] id) false hB (by omega)
  generalize hrr : recB 2 [] 0 0 0 [] id = rr at *
  have p2 := putI_len10 id (by omega)
  have e1 := K35a [2] id (by simp) (by omega) (by omega)
  rw [← hrec] at e1
  have w1 : IntKind.u8.wrap 2 = 2 := by decide
  simp only [W0, W1, List.map_cons, List.map_nil] at e1
  unfold Rcd at hK ⊢
  simp only [List.map_nil] at hK ⊢
  have n1 := nil_or c s []
  have n2 := nil_or c' s' []
  simp only [List.map_nil] at n1 n2
  rcases n1 with ⟨rfl, rfl, _⟩ | h1 <;> rcases n2 with ⟨rfl, rfl, _⟩ | h2
  · simp [c16, hK, e1, hfr, w1, backK, List.take_of_length_le]
  · simp [c16, h2, hK, e1, hfr, w1, backK, List.take_of_length_le]
  · simp [c16, h1, hK, e1, hfr, w1, backK, List.take_of_length_le]
  · simp [c16, h1, h2, hK, e1, hfr, w1, backK, List.take_of_length_le]
set_option maxHeartbeats 8000000 in
theorem K16_3 (c : Bool) (s : Nat) (c' : Bool) (ids : List Int) (id : Int) (h : mayI 3 [] 0 0 0 ids id = true) :
    K0 16 [Rcd 3 c s [] 0 0 0 c' 1 ids id] [] = some (.tuple [.slc false 1 ((frameI (recB 3 [] 0 0 0 ids id)).map (.int .u8)), .bool true], []) := by
  refine K_call k16 (oraG_none (by decide) (by decide)) (by simp [c16, Rcd]) ?_
  have hm := mayI_some h
  have hK := fun c s c' => K33 3 c s [] 0 0 0 c' 1 ids id (.inr rfl) (.inl rfl) (by simp) (by omega)
  rw [h] at hK
  have hrec : recB 3 [] 0 0 0 ids id = [3] ++ putI id ++ putI ids.length ++ putAllI ids := by unfold recB; simp
  have hB : isB (recB 3 [] 0 0 0 ids id) := isB_recB h
  have hrl := recB_len h
  have hfr := N32 (recB 3 [] 0 0 0 ids id) false hB (by omega)
  generalize hrr : recB 3 [] 0 0 0 ids id = rr at *
  have p2 := putI_len10 id (by omega)
  have e1 := K35a [3] id (by simp) (by omega) (by omega)
  obtain ⟨A, hA⟩ : ∃ A, [3] ++ putI id = A := ⟨_, rfl⟩
  have hAl : A.length ≤ 11 := by rw [← hA]; simp; omega
  have e3 := K36 c' 1 ids (.inl rfl) A (by omega) (by omega) (fun x hx => by have := hm.2.2.2 x hx; omega)
  rw [hA] at e1 hrec
  rw [← hrec] at e3
  have w1 : IntKind.u8.wrap 3 = 3 := by decide
  simp only [W0, W1, List.map_cons, List.map_nil] at e1 e3
  unfold Rcd at hK ⊢
  simp only [List.map_nil] at hK ⊢
  have n1 := nil_or c s []
  simp only [List.map_nil] at n1
  rcases nil_or c' 1 ids with ⟨_, h0, _⟩ | h2
  · cases h0
  rcases n1 with ⟨rfl, rfl, _⟩ | h1
  · simp [c16, h2, hK, e1, e3, hfr, w1, backK, List.take_of_length_le]
  · simp [c16, h1, h2, hK, e1, e3, hfr, w1, backK, List.take_of_length_le]
/-- record.Put: what may be. -/
theorem K16_t (kd : Int) (c : Bool) (s : Nat) (ts : List Int) (k m g : Int) (c' : Bool) (s' : Nat) (ids : List Int) (id : Int) (hs : s = 1 ∨ ts = []) (hs' : s' = 1 ∨ ids = []) (h : mayI kd ts k m g ids id = true) :
    K0 16 [Rcd kd c s ts k m g c' s' ids id] [] = some (.tuple [.slc false 1 ((frameI (recB kd ts k m g ids id)).map (.int .u8)), .bool true], []) := by
  rcases (mayI_some h).1 with ⟨rfl, h1⟩ | ⟨rfl, h1, h2⟩ | ⟨rfl, h1, h2⟩
  · have := (schemaOk_iff.1 h1).1
    obtain rfl := hs.resolve_right (by intro e; rw [e] at this; simp at this)
    exact K16_1 c ts k m g c' s' ids id hs' h
  · obtain ⟨rfl, rfl, rfl, rfl⟩ := bare_eq h1
    obtain rfl := List.eq_nil_of_length_eq_zero h2
    exact K16_2 c s c' s' id h
  · obtain ⟨rfl, rfl, rfl, rfl⟩ := bare_eq h1
    obtain rfl := hs'.resolve_right (by intro e; rw [e] at h2; simp at h2)
    exact K16_3 c s c' ids id h
end Go.Ab
