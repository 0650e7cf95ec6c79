/- Shape, ShapeB, KeptW, ShapeC, Down: laid together. -/
import Derived.Test.YtapjhliglmohgaaGreatDoorPwB
import Derived.Test.YtapjhliglmohgaaGreatDoorPwA
import Derived.Deep.OwnRows
/- The shape of a plan, by the program and by the document. -/
namespace Go.Proofs.YtapjhliglmohgaaGreatDoor
open Go.RowKit Go.Sort
set_option maxHeartbeats 4000000 in
theorem inputs_c (i : Nat) (o : OpD) (w : World) : Calls Tryz.prog 173 #[.int .i64 i, opV o] w (BoolPost w (inputsD i o)) := by
 by_cases hi : i = 0
 ·
   by_cases hk : o.k = 1
   ·
     by_cases ha : o.a = 0
     ·
       by_cases hb : o.b = 0
       ·
         have E := Lib.hid (show inputsD i o = true by simp [inputsD, hi, hk, ha, hb])
         have ei : ((i : Int) == 0) = true := by simp [hi]
         have ei' : (i == 0) = true := by simp [hi]
         have ek : (o.k == 1) = true := by simp [hk]
         have ea : (o.a == 0) = true := by simp [ha]
         have eb : (o.b == 0) = true := by simp [hb]
         clear hi hk ha hb
         go_enter Tryz.func173, Tryz.ntmps173
         go_wp2_with (first | (go_at_call 110; refine (two_c o.k _).mono ?_; rw [TW.out]; rintro e w' ⟨rfl, rfl⟩))
         go_ret
         exact ⟨by rw [E.out]; rfl, ext_alloc (Below.refl _ _) _⟩
       ·
         have E := Lib.hid (show inputsD i o = false by simp [inputsD, hi, hk, ha, hb])
         have ei : ((i : Int) == 0) = true := by simp [hi]
         have ei' : (i == 0) = true := by simp [hi]
         have ek : (o.k == 1) = true := by simp [hk]
         have ea : (o.a == 0) = true := by simp [ha]
         have eb : (o.b == 0) = false := by simp [hb]
         clear hi hk ha hb
         go_enter Tryz.func173, Tryz.ntmps173
         go_wp2_with (first | (go_at_call 110; refine (two_c o.k _).mono ?_; rw [TW.out]; rintro e w' ⟨rfl, rfl⟩))
         go_ret
         exact ⟨by rw [E.out]; rfl, ext_alloc (Below.refl _ _) _⟩
     ·
       have E := Lib.hid (show inputsD i o = false by simp [inputsD, hi, hk, ha])
       have ei : ((i : Int) == 0) = true := by simp [hi]
       have ei' : (i == 0) = true := by simp [hi]
       have ek : (o.k == 1) = true := by simp [hk]
       have ea : (o.a == 0) = false := by simp [ha]
       clear hi hk ha
       go_enter Tryz.func173, Tryz.ntmps173
       go_wp2_with (first | (go_at_call 110; refine (two_c o.k _).mono ?_; rw [TW.out]; rintro e w' ⟨rfl, rfl⟩))
       go_ret
       exact ⟨by rw [E.out]; rfl, ext_alloc (Below.refl _ _) _⟩
   ·
     have E := Lib.hid (show inputsD i o = false by simp [inputsD, hi, hk])
     have ei : ((i : Int) == 0) = true := by simp [hi]
     have ei' : (i == 0) = true := by simp [hi]
     have ek : (o.k == 1) = false := by simp [hk]
     clear hi hk
     go_enter Tryz.func173, Tryz.ntmps173
     go_wp2_with (first | (go_at_call 110; refine (two_c o.k _).mono ?_; rw [TW.out]; rintro e w' ⟨rfl, rfl⟩))
     go_ret
     exact ⟨by rw [E.out]; rfl, ext_alloc (Below.refl _ _) _⟩
 ·
   by_cases hk : o.k = 1
   ·
     have E := Lib.hid (show inputsD i o = false by simp [inputsD, hi, hk])
     have ei : ((i : Int) == 0) = false := by simp [hi]
     have ei' : (i == 0) = false := by simp [hi]
     have ek : (o.k == 1) = true := by simp [hk]
     clear hi hk
     go_enter Tryz.func173, Tryz.ntmps173
     go_wp2_with (first | (go_at_call 110; refine (two_c o.k _).mono ?_; rw [TW.out]; rintro e w' ⟨rfl, rfl⟩))
     go_ret
     exact ⟨by rw [E.out]; rfl, ext_alloc (Below.refl _ _) _⟩
   ·
     by_cases ha0 : o.a < 0
     ·
       have E := Lib.hid (show inputsD i o = false by simp [inputsD, hi, hk, ha0])
       have ei : ((i : Int) == 0) = false := by simp [hi]
       have ei' : (i == 0) = false := by simp [hi]
       have ek : (o.k == 1) = false := by simp [hk]
       have qa0 : o.a < 0 := by omega
       have ua0 : decide (o.a < 0) = true := decide_eq_true (by omega)
       have va0 : decide (0 ≤ o.a) = false := decide_eq_false (by omega)
       clear hi hk ha0
       go_enter Tryz.func173, Tryz.ntmps173
       go_wp2_with (first | (go_at_call 110; refine (two_c o.k _).mono ?_; rw [TW.out]; rintro e w' ⟨rfl, rfl⟩))
       go_ret
       exact ⟨by rw [E.out]; rfl, ext_alloc (Below.refl _ _) _⟩
     ·
       by_cases ha1 : (i : Int) ≤ o.a
       ·
         have E := Lib.hid (show inputsD i o = false by simp [inputsD, hi, hk, ha0, ha1])
         have ei : ((i : Int) == 0) = false := by simp [hi]
         have ei' : (i == 0) = false := by simp [hi]
         have ek : (o.k == 1) = false := by simp [hk]
         have qa0 : 0 ≤ o.a := by omega
         have ua0 : decide (o.a < 0) = false := decide_eq_false (by omega)
         have va0 : decide (0 ≤ o.a) = true := decide_eq_true (by omega)
         have qa1 : (i : Int) ≤ o.a := by omega
         have ua1 : decide ((i : Int) ≤ o.a) = true := decide_eq_true (by omega)
         have va1 : decide (o.a < i) = false := decide_eq_false (by omega)
         clear hi hk ha0 ha1
         go_enter Tryz.func173, Tryz.ntmps173
         go_wp2_with (first | (go_at_call 110; refine (two_c o.k _).mono ?_; rw [TW.out]; rintro e w' ⟨rfl, rfl⟩))
         go_ret
         exact ⟨by rw [E.out]; rfl, ext_alloc (Below.refl _ _) _⟩
       ·
         by_cases ht : two o.k = true
         ·
           by_cases hb0 : 0 ≤ o.b
           ·
             by_cases hb1 : o.b < i
             ·
               have E := Lib.hid (show inputsD i o = true by simp [inputsD, hi, hk, ha0, ha1, ht, hb0, hb1])
               have ei : ((i : Int) == 0) = false := by simp [hi]
               have ei' : (i == 0) = false := by simp [hi]
               have ek : (o.k == 1) = false := by simp [hk]
               have qa0 : 0 ≤ o.a := by omega
               have ua0 : decide (o.a < 0) = false := decide_eq_false (by omega)
               have va0 : decide (0 ≤ o.a) = true := decide_eq_true (by omega)
               have qa1 : o.a < i := by omega
               have ua1 : decide ((i : Int) ≤ o.a) = false := decide_eq_false (by omega)
               have va1 : decide (o.a < i) = true := decide_eq_true (by omega)
               have TW := Lib.hid ht
               have qb0 : 0 ≤ o.b := by omega
               have ub0 : decide (0 ≤ o.b) = true := decide_eq_true (by omega)
               have vb0 : decide (o.b < 0) = false := decide_eq_false (by omega)
               have qb1 : o.b < i := by omega
               have ub1 : decide (o.b < i) = true := decide_eq_true (by omega)
               have vb1 : decide ((i : Int) ≤ o.b) = false := decide_eq_false (by omega)
               clear hi hk ha0 ha1 ht hb0 hb1
               go_enter Tryz.func173, Tryz.ntmps173
               go_wp2_with (first | (go_at_call 110; refine (two_c o.k _).mono ?_; rw [TW.out]; rintro e w' ⟨rfl, rfl⟩))
               go_ret
               exact ⟨by rw [E.out]; rfl, ext_alloc (Below.refl _ _) _⟩
             ·
               have E := Lib.hid (show inputsD i o = false by simp [inputsD, hi, hk, ha0, ha1, ht, hb0, hb1])
               have ei : ((i : Int) == 0) = false := by simp [hi]
               have ei' : (i == 0) = false := by simp [hi]
               have ek : (o.k == 1) = false := by simp [hk]
               have qa0 : 0 ≤ o.a := by omega
               have ua0 : decide (o.a < 0) = false := decide_eq_false (by omega)
               have va0 : decide (0 ≤ o.a) = true := decide_eq_true (by omega)
               have qa1 : o.a < i := by omega
               have ua1 : decide ((i : Int) ≤ o.a) = false := decide_eq_false (by omega)
               have va1 : decide (o.a < i) = true := decide_eq_true (by omega)
               have TW := Lib.hid ht
               have qb0 : 0 ≤ o.b := by omega
               have ub0 : decide (0 ≤ o.b) = true := decide_eq_true (by omega)
               have vb0 : decide (o.b < 0) = false := decide_eq_false (by omega)
               have qb1 : (i : Int) ≤ o.b := by omega
               have ub1 : decide (o.b < i) = false := decide_eq_false (by omega)
               have vb1 : decide ((i : Int) ≤ o.b) = true := decide_eq_true (by omega)
               clear hi hk ha0 ha1 ht hb0 hb1
               go_enter Tryz.func173, Tryz.ntmps173
               go_wp2_with (first | (go_at_call 110; refine (two_c o.k _).mono ?_; rw [TW.out]; rintro e w' ⟨rfl, rfl⟩))
               go_ret
               exact ⟨by rw [E.out]; rfl, ext_alloc (Below.refl _ _) _⟩
           ·
             have E := Lib.hid (show inputsD i o = false by simp [inputsD, hi, hk, ha0, ha1, ht, hb0])
             have ei : ((i : Int) == 0) = false := by simp [hi]
             have ei' : (i == 0) = false := by simp [hi]
             have ek : (o.k == 1) = false := by simp [hk]
             have qa0 : 0 ≤ o.a := by omega
             have ua0 : decide (o.a < 0) = false := decide_eq_false (by omega)
             have va0 : decide (0 ≤ o.a) = true := decide_eq_true (by omega)
             have qa1 : o.a < i := by omega
             have ua1 : decide ((i : Int) ≤ o.a) = false := decide_eq_false (by omega)
             have va1 : decide (o.a < i) = true := decide_eq_true (by omega)
             have TW := Lib.hid ht
             have qb0 : o.b < 0 := by omega
             have ub0 : decide (0 ≤ o.b) = false := decide_eq_false (by omega)
             have vb0 : decide (o.b < 0) = true := decide_eq_true (by omega)
             clear hi hk ha0 ha1 ht hb0
             go_enter Tryz.func173, Tryz.ntmps173
             go_wp2_with (first | (go_at_call 110; refine (two_c o.k _).mono ?_; rw [TW.out]; rintro e w' ⟨rfl, rfl⟩))
             go_ret
             exact ⟨by rw [E.out]; rfl, ext_alloc (Below.refl _ _) _⟩
         ·
           by_cases hb : o.b = 0
           ·
             have E := Lib.hid (show inputsD i o = true by simp [inputsD, hi, hk, ha0, ha1, ht, hb])
             have ei : ((i : Int) == 0) = false := by simp [hi]
             have ei' : (i == 0) = false := by simp [hi]
             have ek : (o.k == 1) = false := by simp [hk]
             have qa0 : 0 ≤ o.a := by omega
             have ua0 : decide (o.a < 0) = false := decide_eq_false (by omega)
             have va0 : decide (0 ≤ o.a) = true := decide_eq_true (by omega)
             have qa1 : o.a < i := by omega
             have ua1 : decide ((i : Int) ≤ o.a) = false := decide_eq_false (by omega)
             have va1 : decide (o.a < i) = true := decide_eq_true (by omega)
             have TW := Lib.hid (show two o.k = false by simpa using ht)
             have eb : (o.b == 0) = true := by simp [hb]
             clear hi hk ha0 ha1 ht hb
             go_enter Tryz.func173, Tryz.ntmps173
             go_wp2_with (first | (go_at_call 110; refine (two_c o.k _).mono ?_; rw [TW.out]; rintro e w' ⟨rfl, rfl⟩))
             go_ret
             exact ⟨by rw [E.out]; rfl, ext_alloc (Below.refl _ _) _⟩
           ·
             have E := Lib.hid (show inputsD i o = false by simp [inputsD, hi, hk, ha0, ha1, ht, hb])
             have ei : ((i : Int) == 0) = false := by simp [hi]
             have ei' : (i == 0) = false := by simp [hi]
             have ek : (o.k == 1) = false := by simp [hk]
             have qa0 : 0 ≤ o.a := by omega
             have ua0 : decide (o.a < 0) = false := decide_eq_false (by omega)
             have va0 : decide (0 ≤ o.a) = true := decide_eq_true (by omega)
             have qa1 : o.a < i := by omega
             have ua1 : decide ((i : Int) ≤ o.a) = false := decide_eq_false (by omega)
             have va1 : decide (o.a < i) = true := decide_eq_true (by omega)
             have TW := Lib.hid (show two o.k = false by simpa using ht)
             have eb : (o.b == 0) = false := by simp [hb]
             clear hi hk ha0 ha1 ht hb
             go_enter Tryz.func173, Tryz.ntmps173
             go_wp2_with (first | (go_at_call 110; refine (two_c o.k _).mono ?_; rw [TW.out]; rintro e w' ⟨rfl, rfl⟩))
             go_ret
             exact ⟨by rw [E.out]; rfl, ext_alloc (Below.refl _ _) _⟩
def fnV2 (k : Int) : Value := match fnB k with
 | none => .tuple #[.int .i64 0, .int .i64 0]
 | some (lo, hi) => .tuple #[.int .i64 lo, .int .i64 hi]
theorem rfunctions_c (k : Int) (w : World) : Calls Tryz.prog 159 #[.int .i64 k] w (Val w (fnV2 k)) := by
 rcases kind_cases k with rfl | rfl | rfl | rfl | rfl | rfl | rfl | rfl | ⟨h1, h2, h3, h4, h5, h6, h7, h8⟩
 iterate 8
  · go_enter Tryz.func159, Tryz.ntmps159
    go_wp2_with fail
    go_ret2
    exact ⟨rfl, rfl⟩
 · have e : fnV2 k = .tuple #[.int .i64 0, .int .i64 0] := by
     unfold fnV2 fnB
     rw [if_neg (by omega), if_neg (by omega), if_neg (by omega), if_neg (by omega), if_neg (by omega)]
   have e1 : (k == 1) = false := by simp [h1]
   have e2 : (k == 2) = false := by simp [h2]
   have e3 : (k == 3) = false := by simp [h3]
   have e4 : (k == 4) = false := by simp [h4]
   have e5 : (k == 5) = false := by simp [h5]
   have e6 : (k == 6) = false := by simp [h6]
   have e7 : (k == 7) = false := by simp [h7]
   have e8 : (k == 8) = false := by simp [h8]
   have E := Lib.hid e
   clear e h1 h2 h3 h4 h5 h6 h7 h8
   go_enter Tryz.func159, Tryz.ntmps159
   go_wp2_with fail
   go_ret2
   exact ⟨by rw [E.out]; rfl, rfl⟩
def inpD (k : Int) : Int := if k = 1 then 0 else if two k then 2 else 1
theorem rinputs_c (k : Int) (w : World) : Calls Tryz.prog 160 #[.int .i64 k] w (Val w (.int .i64 (inpD k))) := by
 rcases kind_cases k with rfl | rfl | rfl | rfl | rfl | rfl | rfl | rfl | ⟨h1, h2, h3, h4, h5, h6, h7, h8⟩
 iterate 8
  · go_enter Tryz.func160, Tryz.ntmps160
    go_wp2_with fail
    go_ret
    exact ⟨rfl, rfl⟩
 · have e : inpD k = 1 := by
     unfold inpD two
     simp [h1, h5, h7]
   have e1 : (k == 1) = false := by simp [h1]
   have e2 : (k == 2) = false := by simp [h2]
   have e3 : (k == 3) = false := by simp [h3]
   have e4 : (k == 4) = false := by simp [h4]
   have e5 : (k == 5) = false := by simp [h5]
   have e6 : (k == 6) = false := by simp [h6]
   have e7 : (k == 7) = false := by simp [h7]
   have e8 : (k == 8) = false := by simp [h8]
   have E := Lib.hid e
   clear e h1 h2 h3 h4 h5 h6 h7 h8
   go_enter Tryz.func160, Tryz.ntmps160
   go_wp2_with fail
   go_ret
   exact ⟨by rw [E.out]; rfl, rfl⟩
set_option maxHeartbeats 4000000 in
theorem wrongInputs_c (i : Nat) (o : OpD) (w : World) : Calls Tryz.prog 123 #[opV o, .int .i64 i] w (BoolPost w (!inputsD i o)) := by
 by_cases hi : i = 0
 ·
   by_cases hk : o.k = 1
   ·
     by_cases ha : o.a = 0
     ·
       by_cases hb : o.b = 0
       ·
         have E := Lib.hid (show inputsD i o = true by simp [inputsD, hi, hk, ha, hb])
         have ei : ((i : Int) == 0) = true := by simp [hi]
         have ei' : (i == 0) = true := by simp [hi]
         have IN := Lib.hid (show inpD o.k = 0 by simp [inpD, hk])
         have ea : (o.a == 0) = true := by simp [ha]
         have na : (o.a != 0) = false := by simp [ha]
         have eb : (o.b == 0) = true := by simp [hb]
         have nb : (o.b != 0) = false := by simp [hb]
         clear hi hk ha hb
         go_enter Tryz.func123, Tryz.ntmps123
         go_wp2_with (first | (go_at_call 160; refine (rinputs_c o.k _).mono ?_; rw [IN.out]; rintro e w' ⟨rfl, rfl⟩))
         go_ret
         exact ⟨by rw [E.out]; rfl, ext_alloc (Below.refl _ _) _⟩
       ·
         have E := Lib.hid (show inputsD i o = false by simp [inputsD, hi, hk, ha, hb])
         have ei : ((i : Int) == 0) = true := by simp [hi]
         have ei' : (i == 0) = true := by simp [hi]
         have IN := Lib.hid (show inpD o.k = 0 by simp [inpD, hk])
         have ea : (o.a == 0) = true := by simp [ha]
         have na : (o.a != 0) = false := by simp [ha]
         have eb : (o.b == 0) = false := by simp [hb]
         have nb : (o.b != 0) = true := by simp [hb]
         clear hi hk ha hb
         go_enter Tryz.func123, Tryz.ntmps123
         go_wp2_with (first | (go_at_call 160; refine (rinputs_c o.k _).mono ?_; rw [IN.out]; rintro e w' ⟨rfl, rfl⟩))
         go_ret
         exact ⟨by rw [E.out]; rfl, ext_alloc (Below.refl _ _) _⟩
     ·
       have E := Lib.hid (show inputsD i o = false by simp [inputsD, hi, hk, ha])
       have ei : ((i : Int) == 0) = true := by simp [hi]
       have ei' : (i == 0) = true := by simp [hi]
       have IN := Lib.hid (show inpD o.k = 0 by simp [inpD, hk])
       have ea : (o.a == 0) = false := by simp [ha]
       have na : (o.a != 0) = true := by simp [ha]
       clear hi hk ha
       go_enter Tryz.func123, Tryz.ntmps123
       go_wp2_with (first | (go_at_call 160; refine (rinputs_c o.k _).mono ?_; rw [IN.out]; rintro e w' ⟨rfl, rfl⟩))
       go_ret
       exact ⟨by rw [E.out]; rfl, ext_alloc (Below.refl _ _) _⟩
   ·
     by_cases ht : two o.k = true
     ·
       have E := Lib.hid (show inputsD i o = false by simp [inputsD, hi, hk])
       have ei : ((i : Int) == 0) = true := by simp [hi]
       have ei' : (i == 0) = true := by simp [hi]
       have IN := Lib.hid (show inpD o.k = 2 by simp [inpD, hk, ht])
       clear hi hk ht
       go_enter Tryz.func123, Tryz.ntmps123
       go_wp2_with (first | (go_at_call 160; refine (rinputs_c o.k _).mono ?_; rw [IN.out]; rintro e w' ⟨rfl, rfl⟩))
       go_ret
       exact ⟨by rw [E.out]; rfl, ext_alloc (Below.refl _ _) _⟩
     ·
       have E := Lib.hid (show inputsD i o = false by simp [inputsD, hi, hk])
       have ei : ((i : Int) == 0) = true := by simp [hi]
       have ei' : (i == 0) = true := by simp [hi]
       have IN := Lib.hid (show inpD o.k = 1 by simp [inpD, hk, ht])
       clear hi hk ht
       go_enter Tryz.func123, Tryz.ntmps123
       go_wp2_with (first | (go_at_call 160; refine (rinputs_c o.k _).mono ?_; rw [IN.out]; rintro e w' ⟨rfl, rfl⟩))
       go_ret
       exact ⟨by rw [E.out]; rfl, ext_alloc (Below.refl _ _) _⟩
 ·
   by_cases hk : o.k = 1
   ·
     have E := Lib.hid (show inputsD i o = false by simp [inputsD, hi, hk])
     have ei : ((i : Int) == 0) = false := by simp [hi]
     have ei' : (i == 0) = false := by simp [hi]
     have IN := Lib.hid (show inpD o.k = 0 by simp [inpD, hk])
     clear hi hk
     go_enter Tryz.func123, Tryz.ntmps123
     go_wp2_with (first | (go_at_call 160; refine (rinputs_c o.k _).mono ?_; rw [IN.out]; rintro e w' ⟨rfl, rfl⟩))
     go_ret
     exact ⟨by rw [E.out]; rfl, ext_alloc (Below.refl _ _) _⟩
   ·
     by_cases ht : two o.k = true
     ·
       by_cases ha0 : o.a < 0
       ·
         have E := Lib.hid (show inputsD i o = false by simp [inputsD, hi, hk, ha0])
         have ei : ((i : Int) == 0) = false := by simp [hi]
         have ei' : (i == 0) = false := by simp [hi]
         have IN := Lib.hid (show inpD o.k = 2 by simp [inpD, hk, ht])
         have qa0 : o.a < 0 := by omega
         have ua0 : decide (o.a < 0) = true := decide_eq_true (by omega)
         have va0 : decide (0 ≤ o.a) = false := decide_eq_false (by omega)
         clear hi hk ht ha0
         go_enter Tryz.func123, Tryz.ntmps123
         go_wp2_with (first | (go_at_call 160; refine (rinputs_c o.k _).mono ?_; rw [IN.out]; rintro e w' ⟨rfl, rfl⟩))
         go_ret
         exact ⟨by rw [E.out]; rfl, ext_alloc (Below.refl _ _) _⟩
       ·
         by_cases ha1 : (i : Int) ≤ o.a
         ·
           have E := Lib.hid (show inputsD i o = false by simp [inputsD, hi, hk, ha0, ha1])
           have ei : ((i : Int) == 0) = false := by simp [hi]
           have ei' : (i == 0) = false := by simp [hi]
           have IN := Lib.hid (show inpD o.k = 2 by simp [inpD, hk, ht])
           have qa0 : 0 ≤ o.a := by omega
           have ua0 : decide (o.a < 0) = false := decide_eq_false (by omega)
           have va0 : decide (0 ≤ o.a) = true := decide_eq_true (by omega)
           have qa1 : (i : Int) ≤ o.a := by omega
           have ua1 : decide ((i : Int) ≤ o.a) = true := decide_eq_true (by omega)
           have va1 : decide (o.a < i) = false := decide_eq_false (by omega)
           clear hi hk ht ha0 ha1
           go_enter Tryz.func123, Tryz.ntmps123
           go_wp2_with (first | (go_at_call 160; refine (rinputs_c o.k _).mono ?_; rw [IN.out]; rintro e w' ⟨rfl, rfl⟩))
           go_ret
           exact ⟨by rw [E.out]; rfl, ext_alloc (Below.refl _ _) _⟩
         ·
           by_cases hb0 : 0 ≤ o.b
           ·
             by_cases hb1 : o.b < i
             ·
               have E := Lib.hid (show inputsD i o = true by simp [inputsD, hi, hk, ht, ha0, ha1, hb0, hb1])
               have ei : ((i : Int) == 0) = false := by simp [hi]
               have ei' : (i == 0) = false := by simp [hi]
               have IN := Lib.hid (show inpD o.k = 2 by simp [inpD, hk, ht])
               have qa0 : 0 ≤ o.a := by omega
               have ua0 : decide (o.a < 0) = false := decide_eq_false (by omega)
               have va0 : decide (0 ≤ o.a) = true := decide_eq_true (by omega)
               have qa1 : o.a < i := by omega
               have ua1 : decide ((i : Int) ≤ o.a) = false := decide_eq_false (by omega)
               have va1 : decide (o.a < i) = true := decide_eq_true (by omega)
               have qb0 : 0 ≤ o.b := by omega
               have ub0 : decide (0 ≤ o.b) = true := decide_eq_true (by omega)
               have vb0 : decide (o.b < 0) = false := decide_eq_false (by omega)
               have qb1 : o.b < i := by omega
               have ub1 : decide (o.b < i) = true := decide_eq_true (by omega)
               have vb1 : decide ((i : Int) ≤ o.b) = false := decide_eq_false (by omega)
               clear hi hk ht ha0 ha1 hb0 hb1
               go_enter Tryz.func123, Tryz.ntmps123
               go_wp2_with (first | (go_at_call 160; refine (rinputs_c o.k _).mono ?_; rw [IN.out]; rintro e w' ⟨rfl, rfl⟩))
               go_ret
               exact ⟨by rw [E.out]; rfl, ext_alloc (Below.refl _ _) _⟩
             ·
               have E := Lib.hid (show inputsD i o = false by simp [inputsD, hi, hk, ht, ha0, ha1, hb0, hb1])
               have ei : ((i : Int) == 0) = false := by simp [hi]
               have ei' : (i == 0) = false := by simp [hi]
               have IN := Lib.hid (show inpD o.k = 2 by simp [inpD, hk, ht])
               have qa0 : 0 ≤ o.a := by omega
               have ua0 : decide (o.a < 0) = false := decide_eq_false (by omega)
               have va0 : decide (0 ≤ o.a) = true := decide_eq_true (by omega)
               have qa1 : o.a < i := by omega
               have ua1 : decide ((i : Int) ≤ o.a) = false := decide_eq_false (by omega)
               have va1 : decide (o.a < i) = true := decide_eq_true (by omega)
               have qb0 : 0 ≤ o.b := by omega
               have ub0 : decide (0 ≤ o.b) = true := decide_eq_true (by omega)
               have vb0 : decide (o.b < 0) = false := decide_eq_false (by omega)
               have qb1 : (i : Int) ≤ o.b := by omega
               have ub1 : decide (o.b < i) = false := decide_eq_false (by omega)
               have vb1 : decide ((i : Int) ≤ o.b) = true := decide_eq_true (by omega)
               clear hi hk ht ha0 ha1 hb0 hb1
               go_enter Tryz.func123, Tryz.ntmps123
               go_wp2_with (first | (go_at_call 160; refine (rinputs_c o.k _).mono ?_; rw [IN.out]; rintro e w' ⟨rfl, rfl⟩))
               go_ret
               exact ⟨by rw [E.out]; rfl, ext_alloc (Below.refl _ _) _⟩
           ·
             have E := Lib.hid (show inputsD i o = false by simp [inputsD, hi, hk, ht, ha0, ha1, hb0])
             have ei : ((i : Int) == 0) = false := by simp [hi]
             have ei' : (i == 0) = false := by simp [hi]
             have IN := Lib.hid (show inpD o.k = 2 by simp [inpD, hk, ht])
             have qa0 : 0 ≤ o.a := by omega
             have ua0 : decide (o.a < 0) = false := decide_eq_false (by omega)
             have va0 : decide (0 ≤ o.a) = true := decide_eq_true (by omega)
             have qa1 : o.a < i := by omega
             have ua1 : decide ((i : Int) ≤ o.a) = false := decide_eq_false (by omega)
             have va1 : decide (o.a < i) = true := decide_eq_true (by omega)
             have qb0 : o.b < 0 := by omega
             have ub0 : decide (0 ≤ o.b) = false := decide_eq_false (by omega)
             have vb0 : decide (o.b < 0) = true := decide_eq_true (by omega)
             clear hi hk ht ha0 ha1 hb0
             go_enter Tryz.func123, Tryz.ntmps123
             go_wp2_with (first | (go_at_call 160; refine (rinputs_c o.k _).mono ?_; rw [IN.out]; rintro e w' ⟨rfl, rfl⟩))
             go_ret
             exact ⟨by rw [E.out]; rfl, ext_alloc (Below.refl _ _) _⟩
     ·
       by_cases ha0 : o.a < 0
       ·
         have E := Lib.hid (show inputsD i o = false by simp [inputsD, hi, hk, ha0])
         have ei : ((i : Int) == 0) = false := by simp [hi]
         have ei' : (i == 0) = false := by simp [hi]
         have IN := Lib.hid (show inpD o.k = 1 by simp [inpD, hk, ht])
         have qa0 : o.a < 0 := by omega
         have ua0 : decide (o.a < 0) = true := decide_eq_true (by omega)
         have va0 : decide (0 ≤ o.a) = false := decide_eq_false (by omega)
         clear hi hk ht ha0
         go_enter Tryz.func123, Tryz.ntmps123
         go_wp2_with (first | (go_at_call 160; refine (rinputs_c o.k _).mono ?_; rw [IN.out]; rintro e w' ⟨rfl, rfl⟩))
         go_ret
         exact ⟨by rw [E.out]; rfl, ext_alloc (Below.refl _ _) _⟩
       ·
         by_cases ha1 : (i : Int) ≤ o.a
         ·
           have E := Lib.hid (show inputsD i o = false by simp [inputsD, hi, hk, ha0, ha1])
           have ei : ((i : Int) == 0) = false := by simp [hi]
           have ei' : (i == 0) = false := by simp [hi]
           have IN := Lib.hid (show inpD o.k = 1 by simp [inpD, hk, ht])
           have qa0 : 0 ≤ o.a := by omega
           have ua0 : decide (o.a < 0) = false := decide_eq_false (by omega)
           have va0 : decide (0 ≤ o.a) = true := decide_eq_true (by omega)
           have qa1 : (i : Int) ≤ o.a := by omega
           have ua1 : decide ((i : Int) ≤ o.a) = true := decide_eq_true (by omega)
           have va1 : decide (o.a < i) = false := decide_eq_false (by omega)
           clear hi hk ht ha0 ha1
           go_enter Tryz.func123, Tryz.ntmps123
           go_wp2_with (first | (go_at_call 160; refine (rinputs_c o.k _).mono ?_; rw [IN.out]; rintro e w' ⟨rfl, rfl⟩))
           go_ret
           exact ⟨by rw [E.out]; rfl, ext_alloc (Below.refl _ _) _⟩
         ·
           by_cases hb : o.b = 0
           ·
             have E := Lib.hid (show inputsD i o = true by simp [inputsD, hi, hk, ht, ha0, ha1, hb])
             have ei : ((i : Int) == 0) = false := by simp [hi]
             have ei' : (i == 0) = false := by simp [hi]
             have IN := Lib.hid (show inpD o.k = 1 by simp [inpD, hk, ht])
             have qa0 : 0 ≤ o.a := by omega
             have ua0 : decide (o.a < 0) = false := decide_eq_false (by omega)
             have va0 : decide (0 ≤ o.a) = true := decide_eq_true (by omega)
             have qa1 : o.a < i := by omega
             have ua1 : decide ((i : Int) ≤ o.a) = false := decide_eq_false (by omega)
             have va1 : decide (o.a < i) = true := decide_eq_true (by omega)
             have eb : (o.b == 0) = true := by simp [hb]
             have nb : (o.b != 0) = false := by simp [hb]
             clear hi hk ht ha0 ha1 hb
             go_enter Tryz.func123, Tryz.ntmps123
             go_wp2_with (first | (go_at_call 160; refine (rinputs_c o.k _).mono ?_; rw [IN.out]; rintro e w' ⟨rfl, rfl⟩))
             go_ret
             exact ⟨by rw [E.out]; rfl, ext_alloc (Below.refl _ _) _⟩
           ·
             have E := Lib.hid (show inputsD i o = false by simp [inputsD, hi, hk, ht, ha0, ha1, hb])
             have ei : ((i : Int) == 0) = false := by simp [hi]
             have ei' : (i == 0) = false := by simp [hi]
             have IN := Lib.hid (show inpD o.k = 1 by simp [inpD, hk, ht])
             have qa0 : 0 ≤ o.a := by omega
             have ua0 : decide (o.a < 0) = false := decide_eq_false (by omega)
             have va0 : decide (0 ≤ o.a) = true := decide_eq_true (by omega)
             have qa1 : o.a < i := by omega
             have ua1 : decide ((i : Int) ≤ o.a) = false := decide_eq_false (by omega)
             have va1 : decide (o.a < i) = true := decide_eq_true (by omega)
             have eb : (o.b == 0) = false := by simp [hb]
             have nb : (o.b != 0) = true := by simp [hb]
             clear hi hk ht ha0 ha1 hb
             go_enter Tryz.func123, Tryz.ntmps123
             go_wp2_with (first | (go_at_call 160; refine (rinputs_c o.k _).mono ?_; rw [IN.out]; rintro e w' ⟨rfl, rfl⟩))
             go_ret
             exact ⟨by rw [E.out]; rfl, ext_alloc (Below.refl _ _) _⟩
theorem planFault_c (at_ : Int) (n : Nat) (v : Value) (code : Int) (w : World) (h : ErrN w n v code) : Calls Tryz.prog 138 #[.int .i64 at_, v] w (FaultPost w at_ code) := by
 obtain ⟨T, y, rfl⟩ := h.iface
 have HE := Lib.hid h
 clear h
 go_enter Tryz.func138, Tryz.ntmps138
 go_wp2
 go_ret
 exact ⟨_, rfl, ⟨_, _, _, n, rfl, Bk.new _ _ _, HE.out.ext (ext_alloc (Below.refl _ _) _)⟩, ext_alloc (Below.refl _ _) _⟩
end Go.Proofs.YtapjhliglmohgaaGreatDoor
/- The shape of a plan, by the program and by the document: the walks over its operations. -/
namespace Go.Proofs.YtapjhliglmohgaaGreatDoor
open Go.RowKit Go.Sort
theorem Rd.ops {w : World} {B : Nat} {e : TypeId} {A : Option Addr} {n : Nat} {l : List OpD} (h : Rd w B e 5 A n (opsC l)) {i : Nat} {y : OpD} (hy : l[i]? = some y) (hn : i < n) :
 ∃ ad, A = some ad ∧ w.cell? (ad.add (i * 5)) = some (.int .i64 y.k) ∧ w.cell? ⟨(ad.add (i * 5)).block, (ad.add (i * 5)).off + 1, none⟩ = some (.int .i64 y.a) ∧ w.cell? ⟨(ad.add (i * 5)).block, (ad.add (i * 5)).off + 2, none⟩ = some (.int .i64 y.b) ∧
  w.cell? ⟨(ad.add (i * 5)).block, (ad.add (i * 5)).off + 3, none⟩ = some (.int .i64 y.f) ∧ w.cell? ⟨(ad.add (i * 5)).block, (ad.add (i * 5)).off + 4, none⟩ = some (.int .i64 y.c) := by
 have hat : ∀ j, j < 5 → (opsC l)[i * 5 + j]? = (opC y)[j]? := fun j hj => flat_at opC 5 (fun _ => rfl) l i y hy j hj
 obtain ⟨ad, hA, hc⟩ := h.cell (by omega)
 refine ⟨ad, hA, ?_, ?_, ?_, ?_, ?_⟩
 · exact hc (i * 5) _ (by have := hat 0 (by omega); simpa [opC] using this)
 · rw [← add_succ ad (i * 5) 0]; exact hc (i * 5 + 1) _ (by rw [hat 1 (by omega)]; rfl)
 · rw [← add_succ ad (i * 5) 1]; exact hc (i * 5 + 2) _ (by rw [hat 2 (by omega)]; rfl)
 · rw [← add_succ ad (i * 5) 2]; exact hc (i * 5 + 3) _ (by rw [hat 3 (by omega)]; rfl)
 · rw [← add_succ ad (i * 5) 3]; exact hc (i * 5 + 4) _ (by rw [hat 4 (by omega)]; rfl)
/-! ### the document's Right -/
def rightI (o : OpD) : Int := match rightD o with | none => -1 | some i => (i : Nat)
theorem fnB_none {k : Int} : fnB k = none ↔ k < 1 ∨ 8 < k := by
 unfold fnB
 split
 · simp; omega
 · split
   · simp; omega
   · split
     · simp; omega
     · split
       · simp; omega
       · split
         · simp; omega
         · simp; omega
set_option maxHeartbeats 4000000 in
theorem rright_c (o : OpD) (w : World) : Calls Tryz.prog 122 #[opV o] w (IntPost w (rightI o)) := by
 cases hf : fnB o.k with
 | none =>
   have hk := fnB_none.1 hf
   have FB := Lib.hid hf
   have FV := Lib.hid (show fnV2 o.k = .tuple #[.int .i64 0, .int .i64 0] from (by unfold fnV2; rw [hf]))
   clear hf
   by_cases h1 : o.k < 1
   ·
     have HR := Lib.hid (show rightI o = 0 from (by
      have h : rightD o = some 0 := by
       unfold rightD
       rw [FB.out]
      simp [rightI, h]))
     go_enter Tryz.func122, Tryz.ntmps122
     go_wp2_with (first | (go_at_call 159; refine (rfunctions_c o.k _).mono ?_; rw [FV.out]; rintro e w' ⟨rfl, rfl⟩))
     go_ret
     exact ⟨by rw [HR.out]; rfl, ext_alloc (Below.refl _ _) _⟩
   ·
     have h8 : 8 < o.k := by omega
     have HR := Lib.hid (show rightI o = 0 from (by
      have h : rightD o = some 0 := by
       unfold rightD
       rw [FB.out]
      simp [rightI, h]))
     go_enter Tryz.func122, Tryz.ntmps122
     go_wp2_with (first | (go_at_call 159; refine (rfunctions_c o.k _).mono ?_; rw [FV.out]; rintro e w' ⟨rfl, rfl⟩))
     go_ret
     exact ⟨by rw [HR.out]; rfl, ext_alloc (Below.refl _ _) _⟩
 | some p =>
   obtain ⟨lo, hi⟩ := p
   have hk : ¬ (o.k < 1 ∨ 8 < o.k) := fun h => by rw [fnB_none.2 h] at hf; cases hf
   have hk1 : ¬ o.k < 1 := by omega
   have hk8 : ¬ 8 < o.k := by omega
   have FB := Lib.hid hf
   have FV := Lib.hid (show fnV2 o.k = .tuple #[.int .i64 lo, .int .i64 hi] from (by unfold fnV2; rw [hf]))
   clear hf hk
   by_cases f1 : o.f < lo
   ·
     have HR := Lib.hid (show rightI o = 1 from (by
      have h : rightD o = some 1 := by
       unfold rightD
       rw [FB.out]
       simp only []
       rw [if_pos (by omega)]
      simp [rightI, h]))
     go_enter Tryz.func122, Tryz.ntmps122
     go_wp2_with (first | (go_at_call 159; refine (rfunctions_c o.k _).mono ?_; rw [FV.out]; rintro e w' ⟨rfl, rfl⟩))
     go_ret
     exact ⟨by rw [HR.out]; rfl, ext_alloc (Below.refl _ _) _⟩
   by_cases f2 : hi < o.f
   ·
     have HR := Lib.hid (show rightI o = 1 from (by
      have h : rightD o = some 1 := by
       unfold rightD
       rw [FB.out]
       simp only []
       rw [if_pos (by omega)]
      simp [rightI, h]))
     go_enter Tryz.func122, Tryz.ntmps122
     go_wp2_with (first | (go_at_call 159; refine (rfunctions_c o.k _).mono ?_; rw [FV.out]; rintro e w' ⟨rfl, rfl⟩))
     go_ret
     exact ⟨by rw [HR.out]; rfl, ext_alloc (Below.refl _ _) _⟩
   by_cases c2 : 999999999 < o.c
   ·
     have HR := Lib.hid (show rightI o = 2 from (by
      have h : rightD o = some 2 := by
       unfold rightD
       rw [FB.out]
       simp only []
       rw [if_neg (by omega), if_pos (by omega)]
      simp [rightI, h]))
     go_enter Tryz.func122, Tryz.ntmps122
     go_wp2_with (first | (go_at_call 159; refine (rfunctions_c o.k _).mono ?_; rw [FV.out]; rintro e w' ⟨rfl, rfl⟩))
     go_ret
     exact ⟨by rw [HR.out]; rfl, ext_alloc (Below.refl _ _) _⟩
   by_cases c1 : o.c < -999999999
   ·
     have HR := Lib.hid (show rightI o = 2 from (by
      have h : rightD o = some 2 := by
       unfold rightD
       rw [FB.out]
       simp only []
       rw [if_neg (by omega), if_pos (by omega)]
      simp [rightI, h]))
     go_enter Tryz.func122, Tryz.ntmps122
     go_wp2_with (first | (go_at_call 159; refine (rfunctions_c o.k _).mono ?_; rw [FV.out]; rintro e w' ⟨rfl, rfl⟩))
     go_ret
     exact ⟨by rw [HR.out]; rfl, ext_alloc (Below.refl _ _) _⟩
   by_cases c0 : o.c = 0
   ·
     have HR := Lib.hid (show rightI o = -1 from (by
      have h : rightD o = none := by
       unfold rightD
       rw [FB.out]
       simp only []
       rw [if_neg (by omega), if_neg (by omega)]
      simp [rightI, h]))
     have e0 : (o.c != 0) = false := by simp [c0]
     clear c0
     go_enter Tryz.func122, Tryz.ntmps122
     go_wp2_with (first | (go_at_call 159; refine (rfunctions_c o.k _).mono ?_; rw [FV.out]; rintro e w' ⟨rfl, rfl⟩))
     go_ret
     exact ⟨by rw [HR.out]; rfl, ext_alloc (Below.refl _ _) _⟩
   by_cases h1 : o.k = 1
   ·
     have HR := Lib.hid (show rightI o = 2 from (by
      have h : rightD o = some 2 := by
       unfold rightD
       rw [FB.out]
       simp only []
       rw [if_neg (by omega), if_pos (by omega)]
      simp [rightI, h]))
     have e0 : (o.c != 0) = true := by simp [c0]
     have e1 : (o.k == 1) = true := by simp [h1]
     clear c0 h1
     go_enter Tryz.func122, Tryz.ntmps122
     go_wp2_with (first | (go_at_call 159; refine (rfunctions_c o.k _).mono ?_; rw [FV.out]; rintro e w' ⟨rfl, rfl⟩))
     go_ret
     exact ⟨by rw [HR.out]; rfl, ext_alloc (Below.refl _ _) _⟩
   by_cases h5 : 5 ≤ o.k
   ·
     have HR := Lib.hid (show rightI o = 2 from (by
      have h : rightD o = some 2 := by
       unfold rightD
       rw [FB.out]
       simp only []
       rw [if_neg (by omega), if_pos (by omega)]
      simp [rightI, h]))
     have e0 : (o.c != 0) = true := by simp [c0]
     have e1 : (o.k == 1) = false := by simp [h1]
     clear c0 h1
     go_enter Tryz.func122, Tryz.ntmps122
     go_wp2_with (first | (go_at_call 159; refine (rfunctions_c o.k _).mono ?_; rw [FV.out]; rintro e w' ⟨rfl, rfl⟩))
     go_ret
     exact ⟨by rw [HR.out]; rfl, ext_alloc (Below.refl _ _) _⟩
   ·
     have HR := Lib.hid (show rightI o = -1 from (by
      have h : rightD o = none := by
       unfold rightD
       rw [FB.out]
       simp only []
       rw [if_neg (by omega), if_neg (by omega)]
      simp [rightI, h]))
     have e0 : (o.c != 0) = true := by simp [c0]
     have e1 : (o.k == 1) = false := by simp [h1]
     clear c0 h1
     go_enter Tryz.func122, Tryz.ntmps122
     go_wp2_with (first | (go_at_call 159; refine (rfunctions_c o.k _).mono ?_; rw [FV.out]; rintro e w' ⟨rfl, rfl⟩))
     go_ret
     exact ⟨by rw [HR.out]; rfl, ext_alloc (Below.refl _ _) _⟩
/-! ### the shape -/
abbrev planV (p : PlanD) (A : Option Addr) (c : Nat) : Value := .agg #[.int .i64 p.parts, .slice A p.ops.length c]
theorem opsErr_at {l : List OpD} {i j : Nat} {o : OpD} (h : l[i]? = some o) : opsErr j (l.drop i) = if (rightD o).isSome then some (j, 50) else if inputsD j o then opsErr (j + 1) (l.drop (i + 1)) else some (j, 51) := by
 obtain ⟨hi, rfl⟩ := List.getElem?_eq_some_iff.1 h
 rw [List.drop_eq_getElem_cons hi]
 rfl
theorem rightP_none {o : OpD} (h : rightP o = none) : rightD o = none := by
 unfold rightP at h
 cases hd : rightD o with
 | none => rfl
 | some i => rw [hd] at h; cases h
theorem rightP_some {o : OpD} {x : Nat × Int} (h : rightP o = some x) : (rightD o).isSome = true ∧ x.2 = 50 := by
 unfold rightP at h
 cases hd : rightD o with
 | none => rw [hd] at h; cases h
 | some i => rw [hd] at h; cases h; exact ⟨rfl, rfl⟩
set_option maxRecDepth 100000 in
set_option maxHeartbeats 4000000 in
theorem shape_c (B : Nat) (p : PlanD) (A : Option Addr) (c : Nat) (w : World) (h : Rd w B 48 5 A p.ops.length (opsC p.ops)) : Calls Tryz.prog 136 #[planV p A c] w (ErrPost w (shapeD p)) := by
 have HO := Lib.hid h
 clear h
 by_cases h12 : 12 < p.ops.length
 · have q : (12 : Int) < (p.ops.length : Nat) := by omega
   have HR := Lib.hid (show shapeD p = some (0, 2) from (by unfold shapeD; rw [if_pos h12]))
   clear h12
   go_enter Tryz.func136, Tryz.ntmps136
   go_wp2_with (first | (go_at_call 138; refine (planFault_c 0 0 _ 2 _ rfl).mono ?_; rintro e w1 ⟨v, rfl, he, hb⟩))
   go_ret
   exact errPost_some HR.out ⟨v, rfl, he, ext_trans (ext_alloc (Below.refl _ _) _) hb⟩
 by_cases h0 : p.ops.length = 0
 · have q : ¬ (12 : Int) < (p.ops.length : Nat) := by omega
   have e0 : ((p.ops.length : Int) == 0) = true := by simp [h0]
   have e0' : (p.ops.length == 0) = true := by simp [h0]
   have HR := Lib.hid (show shapeD p = some (0, 1) from (by unfold shapeD; rw [if_neg h12, if_pos (.inl h0)]))
   clear h12 h0
   go_enter Tryz.func136, Tryz.ntmps136
   go_wp2_with (first | (go_at_call 138; refine (planFault_c 0 0 _ 1 _ rfl).mono ?_; rintro e w1 ⟨v, rfl, he, hb⟩))
   go_ret
   exact errPost_some HR.out ⟨v, rfl, he, ext_trans (ext_alloc (Below.refl _ _) _) hb⟩
 have e0 : ((p.ops.length : Int) == 0) = false := by simp [h0]
 have e0' : (p.ops.length == 0) = false := by simp [h0]
 have q : ¬ (12 : Int) < (p.ops.length : Nat) := by omega
 by_cases h1 : p.parts < 1
 · have HR := Lib.hid (show shapeD p = some (0, 1) from (by unfold shapeD; rw [if_neg h12, if_pos (.inr (.inl h1))]))
   clear h12 h0
   go_enter Tryz.func136, Tryz.ntmps136
   go_wp2_with (first | (go_at_call 138; refine (planFault_c 0 0 _ 1 _ rfl).mono ?_; rintro e w1 ⟨v, rfl, he, hb⟩))
   go_ret
   exact errPost_some HR.out ⟨v, rfl, he, ext_trans (ext_alloc (Below.refl _ _) _) hb⟩
 by_cases h4 : 4 < p.parts
 · have HR := Lib.hid (show shapeD p = some (0, 1) from (by unfold shapeD; rw [if_neg h12, if_pos (.inr (.inr h4))]))
   clear h12 h0
   go_enter Tryz.func136, Tryz.ntmps136
   go_wp2_with (first | (go_at_call 138; refine (planFault_c 0 0 _ 1 _ rfl).mono ?_; rintro e w1 ⟨v, rfl, he, hb⟩))
   go_ret
   exact errPost_some HR.out ⟨v, rfl, he, ext_trans (ext_alloc (Below.refl _ _) _) hb⟩
 have HR := Lib.hid (show shapeD p = opsErr 0 p.ops from (by unfold shapeD; rw [if_neg h12, if_neg (by omega)]))
 have hn : p.ops.length ≤ 12 := by omega
 clear h12 h0
 go_enter Tryz.func136, Tryz.ntmps136
 go_wp2_with fail
 go_loopg [31] p.ops.length (fun gk v31 wr => ∃ i : Nat, i + gk = p.ops.length ∧ v31 = .int .i64 (i : Nat) ∧ Hid (opsErr i (p.ops.drop i) = opsErr 0 p.ops) ∧ Below w.heap.size w wr)
 case atStart => exact ⟨0, by simp, rfl, Lib.hid rfl, ext_alloc (Below.refl _ _) _⟩
 case round =>
  obtain ⟨i, hik, rfl, hpre, hb⟩ := hrel
  have HB := Lib.hid hb
  clear hb
  by_cases hi : i < p.ops.length
  · have hy : p.ops[i]? = some (p.ops[i]) := List.getElem?_eq_getElem hi
    generalize p.ops[i] = o at hy
    obtain ⟨ad, rfl, d0, d1, d2, d3, d4⟩ := (HO.out.ext HB.out).ops hy hi
    have HAT := Lib.hid (opsErr_at (j := i) hy)
    have hX := Lib.hid (Bk.new wr 48 #[.int .i64 o.k, .int .i64 o.a, .int .i64 o.b, .int .i64 o.f, .int .i64 o.c])
    clear hy
    cases hrp : rightP o with
    | some x =>
      obtain ⟨ra, rc⟩ := x
      obtain ⟨hs, hc50⟩ := rightP_some hrp
      simp only at hc50
      subst hc50
      have HP := Lib.hid hrp
      have HE := Lib.hid (show shapeD p = some (i, 50) from (by rw [HR.out, ← hpre.out, HAT.out, if_pos hs]))
      clear hrp hs
      go_wp2_with (first
       | (go_at_call 171; refine (right_c o _).mono ?_; rintro e w2 ⟨-, hr⟩; obtain ⟨v, rfl, he, hb2⟩ := hr _ _ HP.out; have HE2 := Lib.hid he; have HB2 := Lib.hid (ext_trans (ext_alloc HB.out _) hb2); obtain ⟨rn, hrn⟩ := he.errN; have HN := Lib.hid hrn; clear hr he hb2 hrn)
       | (go_at_call 172; refine (Is_c rn _ 50 50 _ HN.out).mono ?_; rw [show decide ((50 : Int) = 50) = true from rfl]; rintro e w3 ⟨rfl, hb3⟩; have HB3 := Lib.hid (ext_trans HB2.out hb3); have HN3 := Lib.hid (HN.out.ext hb3); clear hb3)
       | (go_at_call 138; refine (planFault_c _ rn _ 50 _ HN3.out).mono ?_; rintro e w4 ⟨v4, rfl, he4, hb4⟩))
      go_ret
      exact errPost_some HE.out ⟨v4, rfl, he4, ext_trans HB3.out hb4⟩
    | none =>
      have hrd := rightP_none hrp
      have HP := Lib.hid hrp
      rw [hrd] at HAT
      clear hrp hrd
      cases hin : inputsD i o with
      | false =>
        have HE := Lib.hid (show shapeD p = some (i, 51) from (by rw [HR.out, ← hpre.out, HAT.out, if_neg (by simp), if_neg (by rw [hin]; simp)]))
        have HI := Lib.hid hin
        clear hin
        go_wp2_with (first
         | (go_at_call 171; refine (right_c o _).mono ?_; rintro e w2 ⟨hr, -⟩; obtain ⟨rfl, hb2⟩ := hr HP.out; have HB2 := Lib.hid (ext_trans (ext_alloc HB.out _) hb2); have HX2 := Lib.hid (hX.out.ext hb2); have x2 := HX2.out.cell; clear hr hb2)
         | (go_at_call 172; refine (Is_nil 50 _).mono ?_; rintro e w3 ⟨rfl, hb3⟩; have HB3 := Lib.hid (ext_trans HB2.out hb3); have HX3 := Lib.hid (HX2.out.ext hb3); have x3 := HX3.out.cell; clear hb3)
         | (go_at_call 173; refine (inputs_c i o _).mono ?_; rw [HI.out]; rintro e w5 ⟨rfl, hb5⟩; have HB5 := Lib.hid (ext_trans HB3.out hb5); clear hb5)
         | (go_at_call 138; refine (planFault_c _ 0 _ 51 _ rfl).mono ?_; rintro e w4 ⟨v4, rfl, he4, hb4⟩))
        go_ret
        exact errPost_some HE.out ⟨v4, rfl, he4, ext_trans HB5.out hb4⟩
      | true =>
        have HI := Lib.hid hin
        have HST := Lib.hid (show opsErr (i + 1) (p.ops.drop (i + 1)) = opsErr 0 p.ops from (by rw [← hpre.out, HAT.out, if_neg (by simp), if_pos hin]))
        clear hin
        go_wp2_with (first
         | (go_at_call 171; refine (right_c o _).mono ?_; rintro e w2 ⟨hr, -⟩; obtain ⟨rfl, hb2⟩ := hr HP.out; have HB2 := Lib.hid (ext_trans (ext_alloc HB.out _) hb2); have HX2 := Lib.hid (hX.out.ext hb2); have x2 := HX2.out.cell; clear hr hb2)
         | (go_at_call 172; refine (Is_nil 50 _).mono ?_; rintro e w3 ⟨rfl, hb3⟩; have HB3 := Lib.hid (ext_trans HB2.out hb3); have HX3 := Lib.hid (HX2.out.ext hb3); have x3 := HX3.out.cell; clear hb3)
         | (go_at_call 173; refine (inputs_c i o _).mono ?_; rw [HI.out]; rintro e w5 ⟨rfl, hb5⟩; have HB5 := Lib.hid (ext_trans HB3.out hb5); clear hb5))
        go_roundg (gk - 1)
        case measure => omega
        case rel => exact ⟨i + 1, by omega, by go_num, HST, HB5.out⟩
  · have hil : i = p.ops.length := by omega
    subst hil
    have HE := Lib.hid (show shapeD p = none from (by rw [HR.out, ← hpre.out, List.drop_length]; rfl))
    go_wp2_with fail
    go_ret
    exact errPost_none HE.out ⟨rfl, HB.out⟩
end Go.Proofs.YtapjhliglmohgaaGreatDoor
/- Which datasets are kept: the walk of the document's text. -/
namespace Go.Proofs.YtapjhliglmohgaaGreatDoor
open Go.RowKit Go.Sort
theorem rwide_c (k : Int) (w : World) : Calls Tryz.prog 161 #[.int .i64 k] w (Val w (.bool (wide k))) := by
 by_cases h1 : 6 ≤ k
 · by_cases h2 : k ≤ 8
   · have E := Lib.hid (show wide k = true by unfold wide; simp only [Bool.or_eq_true, decide_eq_true_eq]; omega)
     have u1 : decide (6 ≤ k) = true := decide_eq_true h1
     have u2 : decide (k ≤ 8) = true := decide_eq_true h2
     go_enter Tryz.func161, Tryz.ntmps161
     go_wp2_with fail
     go_ret
     exact ⟨by rw [E.out]; rfl, rfl⟩
   · have E := Lib.hid (show wide k = false by unfold wide; simp only [Bool.or_eq_false_iff, decide_eq_false_iff_not]; omega)
     have u1 : decide (6 ≤ k) = true := decide_eq_true h1
     have u2 : decide (k ≤ 8) = false := decide_eq_false h2
     go_enter Tryz.func161, Tryz.ntmps161
     go_wp2_with fail
     go_ret
     exact ⟨by rw [E.out]; rfl, rfl⟩
 · have E := Lib.hid (show wide k = false by unfold wide; simp only [Bool.or_eq_false_iff, decide_eq_false_iff_not]; omega)
   have u1 : decide (6 ≤ k) = false := decide_eq_false h1
   go_enter Tryz.func161, Tryz.ntmps161
   go_wp2_with fail
   go_ret
   exact ⟨by rw [E.out]; rfl, rfl⟩
theorem rnarrow_c (k : Int) (w : World) : Calls Tryz.prog 162 #[.int .i64 k] w (Val w (.bool (narrow k))) := by
 by_cases h1 : 2 ≤ k
 · by_cases h2 : k ≤ 5
   · have E := Lib.hid (show narrow k = true by unfold narrow; simp only [Bool.or_eq_true, decide_eq_true_eq]; omega)
     have u1 : decide (2 ≤ k) = true := decide_eq_true h1
     have u2 : decide (k ≤ 5) = true := decide_eq_true h2
     go_enter Tryz.func162, Tryz.ntmps162
     go_wp2_with fail
     go_ret
     exact ⟨by rw [E.out]; rfl, rfl⟩
   · have E := Lib.hid (show narrow k = false by unfold narrow; simp only [Bool.or_eq_false_iff, decide_eq_false_iff_not]; omega)
     have u1 : decide (2 ≤ k) = true := decide_eq_true h1
     have u2 : decide (k ≤ 5) = false := decide_eq_false h2
     go_enter Tryz.func162, Tryz.ntmps162
     go_wp2_with fail
     go_ret
     exact ⟨by rw [E.out]; rfl, rfl⟩
 · have E := Lib.hid (show narrow k = false by unfold narrow; simp only [Bool.or_eq_false_iff, decide_eq_false_iff_not]; omega)
   have u1 : decide (2 ≤ k) = false := decide_eq_false h1
   go_enter Tryz.func162, Tryz.ntmps162
   go_wp2_with fail
   go_ret
   exact ⟨by rw [E.out]; rfl, rfl⟩
/-! ### lists of bools in memory -/
def boolsC (l : List Bool) : List Value := l.map Value.bool
theorem boolsC_set (l : List Bool) (i : Nat) (b : Bool) : (boolsC l).set i (.bool b) = boolsC (l.set i b) := by simp [boolsC, List.map_set]
theorem setT_comm (l : List Bool) (i j : Nat) : (l.set i true).set j true = (l.set j true).set i true := by
 by_cases e : i = j
 · subst e; rfl
 · exact List.set_comm _ _ e
theorem made_bools (n : Nat) : (madeCells #[.bool false] n).toList = boolsC (List.replicate n false) := by
 apply List.ext_getElem?
 intro x
 by_cases h : x < n
 · simp [madeCells, boolsC, h, Nat.mod_one]
 · simp [madeCells, boolsC, h]
theorem adr1 {g i : Nat} {ad : Addr} (h : ad = ⟨g, 0, none⟩) : ad.add i = ⟨g, i, none⟩ := by
 subst h
 unfold Addr.add
 by_cases h0 : i = 0
 · rw [if_pos h0, h0]
 · rw [if_neg h0]; simp
section
variable {w : World} {base g n : Nat} {ad : Addr} {l : List Bool}
theorem bool_cell (h : ad = ⟨g, 0, none⟩) (ho : w.ownsRow base 4 1 (.slice (some ad) n n) n (boolsC l)) {i : Nat} (hi : i < n) : ∃ u, w.cell? (ad.add i) = some u := by
 rw [h] at ho
 have hl := ho.1
 rw [adr1 h, ho.cellAt i (by omega)]
 exact ⟨_, List.getElem?_eq_getElem (by omega)⟩
theorem bool_free (h : ad = ⟨g, 0, none⟩) (ho : w.ownsRow base 4 1 (.slice (some ad) n n) n (boolsC l)) {i : Nat} : w.frozen? (ad.add i) = false := by
 rw [h] at ho
 rw [adr1 h]
 exact own_frozen ho i
theorem bool_set (h : ad = ⟨g, 0, none⟩) (ho : w.ownsRow base 4 1 (.slice (some ad) n n) n (boolsC l)) (i : Nat) : (w.setCell (ad.add i) (.bool true)).ownsRow base 4 1 (.slice (some ad) n n) n (boolsC (l.set i true)) := by
 rw [h] at ho
 rw [adr1 h, h]
 have h1 := own_set ho i (.bool true)
 rw [boolsC_set] at h1
 exact h1
end
theorem bool_info : (Tryz.prog.info? 4).map (fun i => (i.zero, i.size, i.bytes)) = some (some (.bool false), 1, 1) := by kernel_rfl
def KeptPost (w : World) (l : List Bool) (e : Ending) (w' : World) : Prop :=
 ∃ g, e = .returned (.slice (some ⟨g, 0, none⟩) l.length l.length) ∧ w'.ownsRow w.heap.size 4 1 (.slice (some ⟨g, 0, none⟩) l.length l.length) l.length (boolsC l) ∧ Below w.heap.size w w'
set_option maxRecDepth 100000 in
set_option maxHeartbeats 4000000 in
theorem rkept_c (p : PlanD) (hp : Shaped p) (B : Nat) (A : Option Addr) (c : Nat) (w : World) (h : Rd w B 48 5 A p.ops.length (opsC p.ops)) : Calls Tryz.prog 124 #[planV p A c] w (KeptPost w (keptL p.ops)) := by
 have HO := Lib.hid h
 have hn0 := hp.n0
 have hn12 := hp.n12
 have HP := Lib.hid hp
 have hmk := run_make_row' (P := Tryz.prog) 139 4 (.bool false) 1 Tryz.underlying139 bool_info rfl .i64 .i64 p.ops.length (by omega) (by omega)
 clear h hp
 go_enter Tryz.func124, Tryz.ntmps124
 go_wp2_with fail
 have hown0 : ((w.alloc (.cells #[.int .i64 p.parts, .slice A p.ops.length c] 24)).alloc (.cells (madeCells #[.bool false] p.ops.length) 4)).ownsRow w.heap.size 4 1 (.slice (some ⟨w.heap.size + 1, 0, none⟩) p.ops.length p.ops.length) p.ops.length (boolsC (kL p.ops false 0)) := by
  rw [kL_zero, ← made_bools]
  have h1 := World.ownsRow_lit (w.alloc (.cells #[.int .i64 p.parts, .slice A p.ops.length c] 24)) (base := w.heap.size) (e := 4) (size := 1) (madeCells #[.bool false] p.ops.length) p.ops.length (by simp) (by unfold maxLen; omega) (by simp [madeCells])
  simpa using h1
 obtain ⟨ad, had⟩ : ∃ ad : Addr, ad = ⟨w.heap.size + 1, 0, none⟩ := ⟨_, rfl⟩
 rw [← had] at hown0 ⊢
 have HAD := Lib.hid had
 have HO0 := Lib.hid hown0
 clear hown0 had hmk
 go_loopg [4] p.ops.length (fun gk v4 wr => ∃ i : Nat, i + gk = p.ops.length ∧ v4 = .int .i64 (i : Nat) ∧ wr.ownsRow w.heap.size 4 1 (.slice (some ad) p.ops.length p.ops.length) p.ops.length (boolsC (kL p.ops false i)) ∧ Bk wr w.heap.size 24 #[.int .i64 p.parts, .slice A p.ops.length c] ∧ Below w.heap.size w wr)
 case atStart => exact ⟨0, by simp, rfl, HO0.out, (Bk.new _ _ _).alloc _, ext_alloc (ext_alloc (Below.refl _ _) _) _⟩
 case round =>
  obtain ⟨i, hik, rfl, hown, hz, hb⟩ := hrel
  have HOw := Lib.hid hown
  have HZ := Lib.hid hz
  have HB := Lib.hid hb
  have z0 := hz.cell
  have hzl := hz.lt
  have hwl : w.heap.size + 1 < wr.heap.size := by
   have h1 := hown
   rw [HAD.out] at h1
   exact (h1.lt _ rfl).2
  clear hown hz hb
  by_cases hi : i < p.ops.length
  · have hy : p.ops[i]? = some (p.ops[i]) := List.getElem?_eq_getElem hi
    have hok := (HP.out.op i _ hy).2
    generalize p.ops[i] = o at hy hok
    obtain ⟨ado, rfl, d0, d1, d2, d3, d4⟩ := (HO.out.ext HB.out).ops hy hi
    have ha0 := fun h => (inputsD_a hok h).1
    have ha1 := fun h => (inputsD_a hok h).2
    have hb0 := fun h => (inputsD_b hok h).1
    have hb1 := fun h => (inputsD_b hok h).2
    have HST := Lib.hid (kL_step (last := false) hy ha0 hb0)
    clear hy hok
    by_cases h6 : o.k = 6
    · have hk := h6
      clear h6
      have K8 := Lib.hid hk
      rw [hk] at d0
      obtain ⟨a, ha⟩ : ∃ a : Nat, o.a = (a : Nat) := ⟨o.a.toNat, by have := ha0 (by omega); omega⟩
      have HA := Lib.hid ha
      have hal : a < p.ops.length := by have := ha1 (by omega); omega
      rw [ha] at d1
      clear hk ha ha0 ha1 hb0 hb1
      have HO1 := Lib.hid (HOw.out.alloc (.cells #[.int .i64 6, .int .i64 (a : Nat), .int .i64 o.b, .int .i64 o.f, .int .i64 o.c] 48))
      obtain ⟨u1, c1⟩ := bool_cell HAD.out HO1.out hal
      have f1 := bool_free (i := a) HAD.out HO1.out
      have hX := Lib.hid (Bk.new wr 48 #[.int .i64 6, .int .i64 (a : Nat), .int .i64 o.b, .int .i64 o.f, .int .i64 o.c])
      go_upto_region 8 with (first | (go_at_call 161; refine (rwide_c 6 _).mono ?_; rw [show wide 6 = true from rfl]; rintro e w' ⟨rfl, rfl⟩))
      obtain ⟨w2, hw2⟩ : ∃ x, x = ((wr.alloc (.cells #[.int .i64 6, .int .i64 (a : Nat), .int .i64 o.b, .int .i64 o.f, .int .i64 o.c] 48)).setCell (ad.add a) (.bool true)) := ⟨_, rfl⟩
      rw [← hw2]
      have HO2 := Lib.hid (show w2.ownsRow w.heap.size 4 1 (.slice (some ad) p.ops.length p.ops.length) p.ops.length (boolsC ((kL p.ops false i).set a true)) from (by rw [hw2]; exact bool_set HAD.out HO1.out a))
      have HX2 := Lib.hid (show Bk w2 wr.heap.size 48 #[.int .i64 6, .int .i64 (a : Nat), .int .i64 o.b, .int .i64 o.f, .int .i64 o.c] from (by rw [hw2, adr1 HAD.out]; exact hX.out.far (p := ⟨w.heap.size + 1, a, none⟩) (by simp only; omega) _))
      have HZ2 := Lib.hid (show Bk w2 w.heap.size 24 #[.int .i64 p.parts, .slice (some ado) p.ops.length c] from (by rw [hw2, adr1 HAD.out]; exact (HZ.out.alloc _).far (p := ⟨w.heap.size + 1, a, none⟩) (by simp only; omega) _))
      have HB2 := Lib.hid (show Below w.heap.size w w2 from (by rw [hw2, adr1 HAD.out]; exact (ext_alloc HB.out _).setCell (p := ⟨w.heap.size + 1, a, none⟩) (by simp only; omega) _))
      have x2 := HX2.out.cell
      have z2 := HZ2.out.cell
      have hzl2 := HZ2.out.lt
      have hxl2 := HX2.out.lt
      clear hw2 c1 f1
      go_wp2_with fail
      go_roundg (gk - 1)
      case measure => omega
      case rel =>
       have hst : kL p.ops false (i + 1) = ((kL p.ops false i).set a true) := by
        rw [HST.out]
        simp [kStep, K8.out, wide, two, HA.out]
       exact ⟨i + 1, by omega, by go_num, by rw [hst]; exact HO2.out, HZ2.out, HB2.out⟩
    by_cases h7 : o.k = 7
    · have hk := h7
      clear h6 h7
      have K8 := Lib.hid hk
      rw [hk] at d0
      obtain ⟨a, ha⟩ : ∃ a : Nat, o.a = (a : Nat) := ⟨o.a.toNat, by have := ha0 (by omega); omega⟩
      have HA := Lib.hid ha
      have hal : a < p.ops.length := by have := ha1 (by omega); omega
      rw [ha] at d1
      obtain ⟨b, hb⟩ : ∃ b : Nat, o.b = (b : Nat) := ⟨o.b.toNat, by have := hb0 (by rw [hk]; rfl); omega⟩
      have HBb := Lib.hid hb
      have hbl : b < p.ops.length := by have := hb1 (by rw [hk]; rfl); omega
      rw [hb] at d2
      clear hk ha ha0 ha1 hb0 hb1 hb
      have HO1 := Lib.hid (HOw.out.alloc (.cells #[.int .i64 7, .int .i64 (a : Nat), .int .i64 (b : Nat), .int .i64 o.f, .int .i64 o.c] 48))
      obtain ⟨u1, c1⟩ := bool_cell HAD.out HO1.out hal
      have f1 := bool_free (i := a) HAD.out HO1.out
      have hX := Lib.hid (Bk.new wr 48 #[.int .i64 7, .int .i64 (a : Nat), .int .i64 (b : Nat), .int .i64 o.f, .int .i64 o.c])
      go_upto_region 8 with (first | (go_at_call 161; refine (rwide_c 7 _).mono ?_; rw [show wide 7 = true from rfl]; rintro e w' ⟨rfl, rfl⟩))
      obtain ⟨w2, hw2⟩ : ∃ x, x = ((wr.alloc (.cells #[.int .i64 7, .int .i64 (a : Nat), .int .i64 (b : Nat), .int .i64 o.f, .int .i64 o.c] 48)).setCell (ad.add a) (.bool true)) := ⟨_, rfl⟩
      rw [← hw2]
      have HO2 := Lib.hid (show w2.ownsRow w.heap.size 4 1 (.slice (some ad) p.ops.length p.ops.length) p.ops.length (boolsC ((kL p.ops false i).set a true)) from (by rw [hw2]; exact bool_set HAD.out HO1.out a))
      have HX2 := Lib.hid (show Bk w2 wr.heap.size 48 #[.int .i64 7, .int .i64 (a : Nat), .int .i64 (b : Nat), .int .i64 o.f, .int .i64 o.c] from (by rw [hw2, adr1 HAD.out]; exact hX.out.far (p := ⟨w.heap.size + 1, a, none⟩) (by simp only; omega) _))
      have HZ2 := Lib.hid (show Bk w2 w.heap.size 24 #[.int .i64 p.parts, .slice (some ado) p.ops.length c] from (by rw [hw2, adr1 HAD.out]; exact (HZ.out.alloc _).far (p := ⟨w.heap.size + 1, a, none⟩) (by simp only; omega) _))
      have HB2 := Lib.hid (show Below w.heap.size w w2 from (by rw [hw2, adr1 HAD.out]; exact (ext_alloc HB.out _).setCell (p := ⟨w.heap.size + 1, a, none⟩) (by simp only; omega) _))
      have x2 := HX2.out.cell
      have z2 := HZ2.out.cell
      have hzl2 := HZ2.out.lt
      have hxl2 := HX2.out.lt
      clear hw2 c1 f1
      obtain ⟨u3, c3⟩ := bool_cell HAD.out HO2.out hbl
      have f3 := bool_free (i := b) HAD.out HO2.out
      go_upto_region 10 with fail
      obtain ⟨w3, hw3⟩ : ∃ x, x = (w2.setCell (ad.add b) (.bool true)) := ⟨_, rfl⟩
      rw [← hw3]
      have HO3 := Lib.hid (show w3.ownsRow w.heap.size 4 1 (.slice (some ad) p.ops.length p.ops.length) p.ops.length (boolsC (((kL p.ops false i).set a true).set b true)) from (by rw [hw3]; exact bool_set HAD.out HO2.out b))
      have HX3 := Lib.hid (show Bk w3 wr.heap.size 48 #[.int .i64 7, .int .i64 (a : Nat), .int .i64 (b : Nat), .int .i64 o.f, .int .i64 o.c] from (by rw [hw3, adr1 HAD.out]; exact HX2.out.far (p := ⟨w.heap.size + 1, b, none⟩) (by simp only; omega) _))
      have HZ3 := Lib.hid (show Bk w3 w.heap.size 24 #[.int .i64 p.parts, .slice (some ado) p.ops.length c] from (by rw [hw3, adr1 HAD.out]; exact HZ2.out.far (p := ⟨w.heap.size + 1, b, none⟩) (by simp only; omega) _))
      have HB3 := Lib.hid (show Below w.heap.size w w3 from (by rw [hw3, adr1 HAD.out]; exact HB2.out.setCell (p := ⟨w.heap.size + 1, b, none⟩) (by simp only; omega) _))
      have x3 := HX3.out.cell
      have z3 := HZ3.out.cell
      clear hw3 c3 f3 x2 z2
      go_wp2_with fail
      go_roundg (gk - 1)
      case measure => omega
      case rel =>
       have hst : kL p.ops false (i + 1) = (((kL p.ops false i).set a true).set b true) := by
        rw [HST.out]
        simp [kStep, K8.out, wide, two, HA.out, HBb.out]
       exact ⟨i + 1, by omega, by go_num, by rw [hst]; exact HO3.out, HZ3.out, HB3.out⟩
    by_cases h8 : o.k = 8
    · have hk := h8
      clear h6 h7 h8
      have K8 := Lib.hid hk
      rw [hk] at d0
      obtain ⟨a, ha⟩ : ∃ a : Nat, o.a = (a : Nat) := ⟨o.a.toNat, by have := ha0 (by omega); omega⟩
      have HA := Lib.hid ha
      have hal : a < p.ops.length := by have := ha1 (by omega); omega
      rw [ha] at d1
      clear hk ha ha0 ha1 hb0 hb1
      have HO1 := Lib.hid (HOw.out.alloc (.cells #[.int .i64 8, .int .i64 (a : Nat), .int .i64 o.b, .int .i64 o.f, .int .i64 o.c] 48))
      obtain ⟨u1, c1⟩ := bool_cell HAD.out HO1.out hal
      have f1 := bool_free (i := a) HAD.out HO1.out
      have hX := Lib.hid (Bk.new wr 48 #[.int .i64 8, .int .i64 (a : Nat), .int .i64 o.b, .int .i64 o.f, .int .i64 o.c])
      go_upto_region 8 with (first | (go_at_call 161; refine (rwide_c 8 _).mono ?_; rw [show wide 8 = true from rfl]; rintro e w' ⟨rfl, rfl⟩))
      obtain ⟨w2, hw2⟩ : ∃ x, x = ((wr.alloc (.cells #[.int .i64 8, .int .i64 (a : Nat), .int .i64 o.b, .int .i64 o.f, .int .i64 o.c] 48)).setCell (ad.add a) (.bool true)) := ⟨_, rfl⟩
      rw [← hw2]
      have HO2 := Lib.hid (show w2.ownsRow w.heap.size 4 1 (.slice (some ad) p.ops.length p.ops.length) p.ops.length (boolsC ((kL p.ops false i).set a true)) from (by rw [hw2]; exact bool_set HAD.out HO1.out a))
      have HX2 := Lib.hid (show Bk w2 wr.heap.size 48 #[.int .i64 8, .int .i64 (a : Nat), .int .i64 o.b, .int .i64 o.f, .int .i64 o.c] from (by rw [hw2, adr1 HAD.out]; exact hX.out.far (p := ⟨w.heap.size + 1, a, none⟩) (by simp only; omega) _))
      have HZ2 := Lib.hid (show Bk w2 w.heap.size 24 #[.int .i64 p.parts, .slice (some ado) p.ops.length c] from (by rw [hw2, adr1 HAD.out]; exact (HZ.out.alloc _).far (p := ⟨w.heap.size + 1, a, none⟩) (by simp only; omega) _))
      have HB2 := Lib.hid (show Below w.heap.size w w2 from (by rw [hw2, adr1 HAD.out]; exact (ext_alloc HB.out _).setCell (p := ⟨w.heap.size + 1, a, none⟩) (by simp only; omega) _))
      have x2 := HX2.out.cell
      have z2 := HZ2.out.cell
      have hzl2 := HZ2.out.lt
      have hxl2 := HX2.out.lt
      clear hw2 c1 f1
      obtain ⟨u3, c3⟩ := bool_cell HAD.out HO2.out hi
      have f3 := bool_free (i := i) HAD.out HO2.out
      go_upto_region 4 with fail
      obtain ⟨w3, hw3⟩ : ∃ x, x = (w2.setCell (ad.add i) (.bool true)) := ⟨_, rfl⟩
      rw [← hw3]
      have HO3 := Lib.hid (show w3.ownsRow w.heap.size 4 1 (.slice (some ad) p.ops.length p.ops.length) p.ops.length (boolsC (((kL p.ops false i).set a true).set i true)) from (by rw [hw3]; exact bool_set HAD.out HO2.out i))
      have HX3 := Lib.hid (show Bk w3 wr.heap.size 48 #[.int .i64 8, .int .i64 (a : Nat), .int .i64 o.b, .int .i64 o.f, .int .i64 o.c] from (by rw [hw3, adr1 HAD.out]; exact HX2.out.far (p := ⟨w.heap.size + 1, i, none⟩) (by simp only; omega) _))
      have HZ3 := Lib.hid (show Bk w3 w.heap.size 24 #[.int .i64 p.parts, .slice (some ado) p.ops.length c] from (by rw [hw3, adr1 HAD.out]; exact HZ2.out.far (p := ⟨w.heap.size + 1, i, none⟩) (by simp only; omega) _))
      have HB3 := Lib.hid (show Below w.heap.size w w3 from (by rw [hw3, adr1 HAD.out]; exact HB2.out.setCell (p := ⟨w.heap.size + 1, i, none⟩) (by simp only; omega) _))
      have x3 := HX3.out.cell
      have z3 := HZ3.out.cell
      clear hw3 c3 f3 x2 z2
      go_wp2_with fail
      go_roundg (gk - 1)
      case measure => omega
      case rel =>
       have hst : kL p.ops false (i + 1) = (((kL p.ops false i).set a true).set i true) := by
        rw [HST.out]
        simp [kStep, K8.out, wide, two, HA.out]
        exact setT_comm _ _ _
       exact ⟨i + 1, by omega, by go_num, by rw [hst]; exact HO3.out, HZ3.out, HB3.out⟩
    have e7 : (o.k == 7) = false := by simp [h7]
    have e8 : (o.k == 8) = false := by simp [h8]
    have WD := Lib.hid (show wide o.k = false by simp [wide, h6, h7, h8])
    have H8 := Lib.hid h8
    clear h6 h7 h8 ha0 ha1 hb0 hb1
    go_wp2_with (first | (go_at_call 161; refine (rwide_c o.k _).mono ?_; rw [WD.out]; rintro e w' ⟨rfl, rfl⟩))
    go_roundg (gk - 1)
    case measure => omega
    case rel =>
     have hst : kL p.ops false (i + 1) = kL p.ops false i := by
      rw [HST.out]
      unfold kStep
      simp only
      rw [if_neg H8.out, if_neg (by rw [WD.out]; simp)]
     exact ⟨i + 1, by omega, by go_num, by rw [hst]; exact HOw.out.alloc _, HZ.out.alloc _, ext_alloc HB.out _⟩
  · have hil : i = p.ops.length := by omega
    subst hil
    obtain ⟨N, hN⟩ : ∃ N : Nat, N = p.ops.length - 1 := ⟨_, rfl⟩
    have hNl : N < p.ops.length := by omega
    have hW : IntKind.i64.wrap ((p.ops.length : Int) - 1) = (N : Nat) := by rw [show (p.ops.length : Int) - 1 = (N : Nat) by omega]; exact IntWalk.i64_in _ (by omega)
    have HN := Lib.hid hN
    obtain ⟨uL, cL⟩ := bool_cell HAD.out HOw.out hNl
    have fL := bool_free (i := N) HAD.out HOw.out
    clear hN
    go_wp2_with fail
    go_ret
    have hO := bool_set HAD.out HOw.out N
    rw [HN.out, kL_last hn0, kL_full] at hO
    have hl : (keptL p.ops).length = p.ops.length := by simp [keptL]
    refine ⟨w.heap.size + 1, ?_, ?_, ?_⟩
    · rw [← HAD.out, hl]; rfl
    · rw [← HAD.out, hl, HN.out]; exact hO
    · rw [adr1 HAD.out]; exact HB.out.setCell (p := ⟨w.heap.size + 1, N, none⟩) (by simp only; omega) _
end Go.Proofs.YtapjhliglmohgaaGreatDoor
/- The shape of a plan: the walk of the document's text. -/
namespace Go.Proofs.YtapjhliglmohgaaGreatDoor
open Go.RowKit Go.Sort
def pairV (r : Option (Nat × Int)) : Value := match r with
 | none => .tuple #[.int .i64 0, .int .i64 0]
 | some (at_, c) => .tuple #[.int .i64 (at_ : Nat), .int .i64 c]
def PairPost (w : World) (r : Option (Nat × Int)) (e : Ending) (w' : World) : Prop := e = .returned (pairV r) ∧ Below w.heap.size w w'
theorem rightI_neg {o : OpD} : (0 ≤ rightI o) ↔ (rightD o).isSome = true := by
 unfold rightI
 cases rightD o with
 | none => simp
 | some i => simp
set_option maxRecDepth 100000 in
set_option maxHeartbeats 4000000 in
theorem rshape_c (B : Nat) (p : PlanD) (A : Option Addr) (c : Nat) (w : World) (h : Rd w B 48 5 A p.ops.length (opsC p.ops)) : Calls Tryz.prog 65 #[planV p A c] w (PairPost w (shapeD p)) := by
 have HO := Lib.hid h
 clear h
 by_cases h12 : 12 < p.ops.length
 · have q : (12 : Int) < (p.ops.length : Nat) := by omega
   have u : decide ((12 : Int) < (p.ops.length : Nat)) = true := decide_eq_true q
   have HR := Lib.hid (show shapeD p = some (0, 2) from (by unfold shapeD; rw [if_pos h12]))
   clear h12
   go_enter Tryz.func65, Tryz.ntmps65
   go_wp2_with fail
   go_ret2
   exact ⟨by rw [HR.out]; rfl, ext_alloc (Below.refl _ _) _⟩
 have q : ¬ (12 : Int) < (p.ops.length : Nat) := by omega
 have u : decide ((12 : Int) < (p.ops.length : Nat)) = false := decide_eq_false q
 by_cases h0 : p.ops.length = 0
 · have e0 : ((p.ops.length : Int) == 0) = true := by simp [h0]
   have e0' : (p.ops.length == 0) = true := by simp [h0]
   have HR := Lib.hid (show shapeD p = some (0, 1) from (by unfold shapeD; rw [if_neg h12, if_pos (.inl h0)]))
   clear h12 h0
   go_enter Tryz.func65, Tryz.ntmps65
   go_wp2_with fail
   go_ret2
   exact ⟨by rw [HR.out]; rfl, ext_alloc (Below.refl _ _) _⟩
 have e0 : ((p.ops.length : Int) == 0) = false := by simp [h0]
 have e0' : (p.ops.length == 0) = false := by simp [h0]
 by_cases h1 : p.parts < 1
 · have u1 : decide (p.parts < 1) = true := decide_eq_true h1
   have HR := Lib.hid (show shapeD p = some (0, 1) from (by unfold shapeD; rw [if_neg h12, if_pos (.inr (.inl h1))]))
   clear h12 h0
   go_enter Tryz.func65, Tryz.ntmps65
   go_wp2_with fail
   go_ret2
   exact ⟨by rw [HR.out]; rfl, ext_alloc (Below.refl _ _) _⟩
 have u1 : decide (p.parts < 1) = false := decide_eq_false h1
 by_cases h4 : 4 < p.parts
 · have u4 : decide (4 < p.parts) = true := decide_eq_true h4
   have HR := Lib.hid (show shapeD p = some (0, 1) from (by unfold shapeD; rw [if_neg h12, if_pos (.inr (.inr h4))]))
   clear h12 h0
   go_enter Tryz.func65, Tryz.ntmps65
   go_wp2_with fail
   go_ret2
   exact ⟨by rw [HR.out]; rfl, ext_alloc (Below.refl _ _) _⟩
 have u4 : decide (4 < p.parts) = false := decide_eq_false h4
 have HR := Lib.hid (show shapeD p = opsErr 0 p.ops from (by unfold shapeD; rw [if_neg h12, if_neg (by omega)]))
 have hn : p.ops.length ≤ 12 := by omega
 clear h12 h0
 go_enter Tryz.func65, Tryz.ntmps65
 go_wp2_with fail
 go_loopg [4] p.ops.length (fun gk v4 wr => ∃ i : Nat, i + gk = p.ops.length ∧ v4 = .int .i64 (i : Nat) ∧ Hid (opsErr i (p.ops.drop i) = opsErr 0 p.ops) ∧ Bk wr w.heap.size 24 #[.int .i64 p.parts, .slice A p.ops.length c] ∧ Below w.heap.size w wr)
 case atStart => exact ⟨0, by simp, rfl, Lib.hid rfl, Bk.new _ _ _, ext_alloc (Below.refl _ _) _⟩
 case round =>
  obtain ⟨i, hik, rfl, hpre, hz, hb⟩ := hrel
  have HB := Lib.hid hb
  have HZ := Lib.hid hz
  have z0 := hz.cell
  have hzl := hz.lt
  clear hb hz
  by_cases hi : i < p.ops.length
  · have hy : p.ops[i]? = some (p.ops[i]) := List.getElem?_eq_getElem hi
    generalize p.ops[i] = o at hy
    obtain ⟨ad, rfl, d0, d1, d2, d3, d4⟩ := (HO.out.ext HB.out).ops hy hi
    have HAT := Lib.hid (opsErr_at (j := i) hy)
    have HY := Lib.hid hy
    clear hy
    cases hs : (rightD o).isSome with
    | true =>
      have hri : decide (0 ≤ rightI o) = true := decide_eq_true (rightI_neg.2 hs)
      have HE := Lib.hid (show shapeD p = some (i, 50) from (by rw [HR.out, ← hpre.out, HAT.out, if_pos hs]))
      have hri' : 0 ≤ rightI o := rightI_neg.2 hs
      clear hs
      go_wp2_with (first
       | (go_at_call 122; refine (rright_c o _).mono ?_; rintro e w2 ⟨rfl, hb2⟩; have HB2 := Lib.hid (ext_trans HB.out hb2); clear hb2))
      go_ret2
      exact ⟨by rw [HE.out]; rfl, HB2.out⟩
    | false =>
      have hri : decide (0 ≤ rightI o) = false := decide_eq_false (fun h => by have := rightI_neg.1 h; rw [hs] at this; cases this)
      have hri' : rightI o < 0 := by have := of_decide_eq_false hri; omega
      rw [hs] at HAT
      clear hs
      cases hin : inputsD i o with
      | false =>
        have HE := Lib.hid (show shapeD p = some (i, 51) from (by rw [HR.out, ← hpre.out, HAT.out, if_neg (by simp), if_neg (by rw [hin]; simp)]))
        have HI := Lib.hid hin
        clear hin
        go_wp2_with (first
         | (go_at_call 122; refine (rright_c o _).mono ?_; rintro e w2 ⟨rfl, hb2⟩; have HB2 := Lib.hid (ext_trans HB.out hb2); have HZ2 := Lib.hid (HZ.out.ext hb2); have z2 := HZ2.out.cell; obtain ⟨ad', he', f0, f1, f2, f3, f4⟩ := (HO.out.ext HB2.out).ops HY.out hi; cases he'; clear hb2)
         | (go_at_call 123; refine (wrongInputs_c i o _).mono ?_; rw [HI.out]; rintro e w3 ⟨rfl, hb3⟩; have HB3 := Lib.hid (ext_trans HB2.out hb3); clear hb3))
        go_ret2
        exact ⟨by rw [HE.out]; rfl, HB3.out⟩
      | true =>
        have HI := Lib.hid hin
        have HST := Lib.hid (show opsErr (i + 1) (p.ops.drop (i + 1)) = opsErr 0 p.ops from (by rw [← hpre.out, HAT.out, if_neg (by simp), if_pos hin]))
        clear hin
        go_wp2_with (first
         | (go_at_call 122; refine (rright_c o _).mono ?_; rintro e w2 ⟨rfl, hb2⟩; have HB2 := Lib.hid (ext_trans HB.out hb2); have HZ2 := Lib.hid (HZ.out.ext hb2); have z2 := HZ2.out.cell; obtain ⟨ad', he', f0, f1, f2, f3, f4⟩ := (HO.out.ext HB2.out).ops HY.out hi; cases he'; clear hb2)
         | (go_at_call 123; refine (wrongInputs_c i o _).mono ?_; rw [HI.out]; rintro e w3 ⟨rfl, hb3⟩; have HB3 := Lib.hid (ext_trans HB2.out hb3); have HZ3 := Lib.hid (HZ2.out.ext hb3); clear hb3))
        go_roundg (gk - 1)
        case measure => omega
        case rel => exact ⟨i + 1, by omega, by go_num, HST, HZ3.out, HB3.out⟩
  · have hil : i = p.ops.length := by omega
    subst hil
    have HE := Lib.hid (show shapeD p = none from (by rw [HR.out, ← hpre.out, List.drop_length]; rfl))
    go_wp2_with fail
    go_ret2
    exact ⟨by rw [HE.out]; rfl, HB.out⟩
end Go.Proofs.YtapjhliglmohgaaGreatDoor
/- The way down, by the document's text: come and down. -/
namespace Go.Proofs.YtapjhliglmohgaaGreatDoor
open Go.RowKit Go.Sort
attribute [local go_sem high] id_eqI
theorem nodup_lt_len : ∀ (N : Nat) (l : List Nat), l.Nodup → (∀ x ∈ l, x < N) → l.length ≤ N
 | 0, l, _, h => by
   cases l with
   | nil => exact Nat.le_refl _
   | cons a l => exact absurd (h a (by simp)) (Nat.not_lt_zero _)
 | N + 1, l, hn, h => by
   by_cases hm : N ∈ l
   · have h1 := nodup_lt_len N (l.erase N) (hn.erase N) (fun x hx => by
       have h2 := (List.Nodup.mem_erase_iff hn).1 hx
       have := h x h2.2
       have := h2.1
       omega)
     have h2 := List.length_erase_of_mem hm
     omega
   · have h1 := nodup_lt_len N l hn (fun x hx => by
       have := h x hx
       have : x ≠ N := fun e => hm (e ▸ hx)
       omega)
     omega
/-- Points come to: each once, each one that there is. -/
structure Good (out : List Pt) : Prop where
 nd : out.Nodup
 lt : ∀ y ∈ out, y.1 < 12 ∧ y.2 < 4
theorem Good.len {out : List Pt} (h : Good out) : out.length ≤ 48 := by
 have h1 : (out.map fun y => y.1 * 4 + y.2).Nodup := by
  refine List.pairwise_map.2 (List.Pairwise.imp_of_mem ?_ h.nd)
  intro a b ha hb hab e
  have h2 := h.lt a ha
  have h3 := h.lt b hb
  apply hab
  have e1 : a.1 = b.1 := by omega
  have e2 : a.2 = b.2 := by omega
  exact Prod.ext e1 e2
 have h2 := nodup_lt_len 48 _ h1 (fun x hx => by
  obtain ⟨y, hy, rfl⟩ := List.mem_map.1 hx
  have := h.lt y hy
  omega)
 rw [List.length_map] at h2
 exact h2
def pid (y : Pt) : Id3 := ⟨0, (y.1 : Nat), (y.2 : Nat)⟩
theorem pid_inj {a b : Pt} (h : pid a = pid b) : a = b := by
 unfold pid at h
 simp only [Id3.mk.injEq] at h
 exact Prod.ext (by omega) (by omega)
def ptsC (l : List Pt) : List Value := idsC (l.map pid)
def ptC (y : Pt) : List Value := idC (pid y)
theorem ptsC_eq (l : List Pt) : ptsC l = l.flatMap ptC := by
 unfold ptsC idsC ptC
 rw [List.flatMap_map]
theorem pt_app : AppC ptC 33 35 3 24 (.agg #[.int .i64 0, .int .i64 0, .int .i64 0]) :=
 ⟨Tryz.underlying33, by kernel_rfl, rfl, by decide, fun _ => rfl, fun x u hu => by simp only [ptC, idC, List.mem_cons, List.not_mem_nil, or_false] at hu; rcases hu with rfl | rfl | rfl <;> rfl, by decide⟩
section
variable {α : Type} {enc : α → List Value} {te e : TypeId} {z bytes : Nat} {zero : Value}
theorem wp_appF (C : AppC enc te e z bytes zero) {o : Oper} {a : Act} {K : Act → World → Prop} {Q : Exit → Act → World → Prop} (W : World) (s x : Operand)
 (ho : o.op = .call { callee := .builtin .append, args := #[s, x], argTypes := #[te, te] }) (base : Nat) (v : Value) (l : List α) (hs : a.eval s = v)
 (hown : W.ownsRow base e z v l.length (l.flatMap enc)) (y : α) (g : Nat) (hx : a.eval x = .slice (some ⟨g, 0, none⟩) 1 1) (hg : Bk W g e (enc y).toArray) (hlen : l.length ≤ 1073741824) (hbase : base ≤ W.heap.size)
 (h : ∀ A c w', w'.ownsRow base e z (.slice A (l ++ [y]).length c) (l ++ [y]).length ((l ++ [y]).flatMap enc) → W.grownBy w' v.ownBlock → (l ++ [y]).length ≤ c → ((Value.slice A (l ++ [y]).length c).ownBlock = v.ownBlock ∨ (Value.slice A (l ++ [y]).length c).ownBlock = some W.heap.size) → K (a.put o.dst (.slice A (l ++ [y]).length c)) w') :
 o.wp Tryz.prog a W K Q := by
 obtain ⟨i0, hi0, hz0, hz1, hz2⟩ := info_parts C.info
 have hbb : (l.length + 1) * bytes ≤ 140737488355328 := Nat.le_trans (Nat.mul_le_mul (show l.length + 1 ≤ 1073741825 by omega) C.small) (by omega)
 obtain ⟨v', w', hr, h1, h2, _, h5⟩ := run_append_own_at (P := Tryz.prog) W base te o.type e i0 _ z bytes C.te hi0 hz0 hz1 hz2 C.zz C.z0 v l.length (l.flatMap enc) hown ⟨g, 0, none⟩ 1 1 (enc y) (by rw [C.len]; omega)
  (World.news_of_block (cs := (enc y).toArray) (t := e) (fr := (0, 0)) hg) (C.one y) (by simp only [maxLen]; omega) hbb hbase
 unfold Oper.wp execOp
 simp only [ho, resolve, invoke, builtin, Sem.run_bind, Sem.run_pure, Result.andThen_ok, List.map_toArray, List.map_cons, List.map_nil, hs, hx, hr]
 have h1' : w'.ownsRow base e z v' (l ++ [y]).length ((l ++ [y]).flatMap enc) := by
  rw [List.flatMap_append, List.length_append, List.flatMap_singleton]
  exact h1
 have h1'' := h1'
 rcases h1''.2 with ⟨_, hn⟩ | ⟨b, c, cur, hv, _, _, hc, _⟩
 · simp at hn
 · rw [hv] at h1' h5 ⊢
   exact h _ c w' h1' h2 hc h5
theorem wpList_appF (C : AppC enc te e z bytes zero) {ops : Array Oper} {rest : List Oper} {o : Oper} {a : Act} {Q : Exit → Act → World → Prop} (W : World) (hgd : o.guard = none) (s x : Operand)
 (ho : o.op = .call { callee := .builtin .append, args := #[s, x], argTypes := #[te, te] }) (base : Nat) (v : Value) (l : List α) (hs : a.eval s = v)
 (hown : W.ownsRow base e z v l.length (l.flatMap enc)) (y : α) (g : Nat) (hx : a.eval x = .slice (some ⟨g, 0, none⟩) 1 1) (hg : Bk W g e (enc y).toArray) (hlen : l.length ≤ 1073741824) (hbase : base ≤ W.heap.size)
 (h : ∀ A c w', w'.ownsRow base e z (.slice A (l ++ [y]).length c) (l ++ [y]).length ((l ++ [y]).flatMap enc) → W.grownBy w' v.ownBlock → (l ++ [y]).length ≤ c → ((Value.slice A (l ++ [y]).length c).ownBlock = v.ownBlock ∨ (Value.slice A (l ++ [y]).length c).ownBlock = some W.heap.size) → wpList Tryz.prog ops Q rest (a.put o.dst (.slice A (l ++ [y]).length c)) w') :
 wpList Tryz.prog ops Q (o :: rest) a W :=
 wpList_plain hgd fun _ hK => wp_appF C W s x ho base v l hs hown y g hx hg hlen hbase fun A c w' h1 h2 h3 h4 => hK _ _ (h A c w' h1 h2 h3 h4)
end
/-- What is come to when a part of a dataset is come to. -/
def comeL (ops : List OpD) (parts f s q : Nat) (out : List Pt) : List Pt := if keptAt ops s then (if (s, q) ∈ out then out else out ++ [(s, q)]) else down ops parts f s q out
def DownPost (w : World) (base : Nat) (v : Value) (r : List Pt) (e : Ending) (w' : World) : Prop :=
 ∃ A c, e = .returned (.slice A r.length c) ∧ w'.ownsRow base 35 3 (.slice A r.length c) r.length (ptsC r) ∧ w.grownBy w' v.ownBlock ∧ (∀ j, (Value.slice A r.length c).ownBlock = some j → w.heap.size ≤ j ∨ v.ownBlock = some j)
/-- What is asked ahead of a call. -/
structure DownPre (B base : Nat) (p : PlanD) (A K : Option Addr) (w : World) (v : Value) (out : List Pt) : Prop where
 ops : Rd w B 48 5 A p.ops.length (opsC p.ops)
 kept : Rd w B 4 1 K p.ops.length (boolsC (keptL p.ops))
 own : w.ownsRow base 35 3 v out.length (ptsC out)
 good : Good out
 bB : B ≤ base
 bs : base ≤ w.heap.size
theorem DownPre.ext {B base : Nat} {p : PlanD} {A K : Option Addr} {w w' : World} {v : Value} {out : List Pt} (h : DownPre B base p A K w v out) (hb : Below w.heap.size w w') : DownPre B base p A K w' v out :=
 ⟨h.ops.ext hb, h.kept.ext hb, own_ext h.own hb, h.good, h.bB, Nat.le_trans h.bs hb.size⟩
theorem DownPre.next {B base : Nat} {p : PlanD} {A K : Option Addr} {w w' : World} {v v' : Value} {out out' : List Pt} (h : DownPre B base p A K w v out) (hg : w.grownBy w' v.ownBlock) (ho : w'.ownsRow base 35 3 v' out'.length (ptsC out')) (hgood : Good out') : DownPre B base p A K w' v' out' := by
 have hk := keepBut_own (B := B) h.own h.bB hg
 exact ⟨hk.rd h.ops (by decide), hk.rd h.kept (by decide), ho, hgood, h.bB, Nat.le_trans h.bs hg.size⟩
def RDown (f : Nat) : Prop := ∀ (B base : Nat) (p : PlanD) (A K : Option Addr) (c kc s q : Nat) (out : List Pt) (v : Value) (w : World), Shaped p → DownPre B base p A K w v out → s < f → s < p.ops.length → q < p.parts.toNat →
 Calls Tryz.prog 125 #[planV p A c, .slice K p.ops.length kc, .int .i64 (s : Nat), .int .i64 (q : Nat), v] w (DownPost w base v (down p.ops p.parts.toNat f s q out))
def RCome (f : Nat) : Prop := ∀ (B base : Nat) (p : PlanD) (A K : Option Addr) (c kc s q : Nat) (out : List Pt) (v : Value) (w : World), Shaped p → DownPre B base p A K w v out → s < f → s < p.ops.length → q < p.parts.toNat →
 Calls Tryz.prog 163 #[planV p A c, .slice K p.ops.length kc, .int .i64 (s : Nat), .int .i64 (q : Nat), v] w (DownPost w base v (comeL p.ops p.parts.toNat f s q out))
theorem keptL_get {ops : List OpD} {s : Nat} (h : s < ops.length) : (keptL ops)[s]? = some (keptAt ops s) := by simp [keptL, h]
theorem kept_cell {w : World} {B n s : Nat} {K : Option Addr} {ops : List OpD} (h : Rd w B 4 1 K n (boolsC (keptL ops))) (hs : s < ops.length) (hn : s < n) : ∃ ad, K = some ad ∧ w.cell? (ad.add s) = some (.bool (keptAt ops s)) := by
 obtain ⟨ad, hA, hc⟩ := h.cell (by omega)
 refine ⟨ad, hA, hc s _ ?_⟩
 unfold boolsC
 rw [List.getElem?_map, keptL_get hs]
 rfl
set_option maxRecDepth 100000 in
set_option maxHeartbeats 4000000 in
theorem rcome_c (f : Nat) (hd : RDown f) : RCome f := by
 intro B base p A K c kc s q out v w hp hpre hsf hsn hq
 obtain ⟨kad, rfl, k0⟩ := kept_cell hpre.kept hsn hsn
 have hkl := World.block_lt_of_cell? w _ k0
 obtain ⟨A4, c4, rfl, hc4⟩ := own_shape hpre.own
 have hp4 := hp.p4
 have hn12 := hp.n12
 have hlen := hpre.good.len
 have HP := Lib.hid hp
 have HPre := Lib.hid hpre
 cases hk : keptAt p.ops s with
 | false =>
   rw [hk] at k0
   have HC := Lib.hid (show comeL p.ops p.parts.toNat f s q out = down p.ops p.parts.toNat f s q out from (by unfold comeL; rw [if_neg (by rw [hk]; simp)]))
   have HD := Lib.hid hd
   clear hp hpre hk hd
   go_enter Tryz.func163, Tryz.ntmps163
   go_wp2_with (first | (go_at_call 125; refine (HD.out B base p A (some kad) c kc s q out (.slice A4 out.length c4) _ HP.out (HPre.out.ext (ext_alloc (Below.refl _ _) _)) hsf hsn hq).mono ?_; rintro e w1 ⟨A5, c5, rfl, hown, hg, hj⟩))
   go_ret
   rw [HC.out]
   refine ⟨A5, c5, rfl, hown, (World.grownBy_alloc w _ _).trans hg, fun j hj' => ?_⟩
   rcases hj j hj' with h | h
   · exact .inl (Nat.le_trans (by simp) h)
   · exact .inr h
 | true =>
   rw [hk] at k0
   have HC := Lib.hid (show comeL p.ops p.parts.toNat f s q out = (if (s, q) ∈ out then out else out ++ [(s, q)]) from (by unfold comeL; rw [if_pos hk]))
   have hnl := hpre.bs
   clear hp hpre hk hd
   go_enter Tryz.func163, Tryz.ntmps163
   go_wp2_with fail
   go_loopg [12] out.length (fun gk v12 wr => ∃ i : Nat, i + gk = out.length ∧ v12 = .int .i64 (i : Nat) ∧ Hid ((s, q) ∉ out.take i) ∧ Bk wr (w.heap.size + 1) 35 #[.int .i64 0, .int .i64 (s : Nat), .int .i64 (q : Nat)] ∧ Below w.heap.size w wr)
   case atStart => exact ⟨0, by simp, rfl, Lib.hid (by simp), Bk.newAt (by simp), ext_alloc (ext_alloc (Below.refl _ _) _) _⟩
   case round =>
    obtain ⟨i, hik, rfl, hnot, hx, hb⟩ := hrel
    have HX := Lib.hid hx
    have HB := Lib.hid hb
    have x0 : wr.cell? ⟨w.heap.size + 1, 0, none⟩ = some (.int .i64 0) := by rw [hx.cell]; rfl
    have x1 : wr.cell? ⟨w.heap.size + 1, 1, none⟩ = some (.int .i64 (s : Nat)) := by rw [hx.cell]; rfl
    have x2 : wr.cell? ⟨w.heap.size + 1, 2, none⟩ = some (.int .i64 (q : Nat)) := by rw [hx.cell]; rfl
    have hsz := hx.lt
    clear hx hb
    by_cases hi : i < out.length
    · have hy : out[i]? = some (out[i]) := List.getElem?_eq_getElem hi
      generalize out[i] = y at hy
      obtain ⟨ad, rfl, d0, d1, d2⟩ := (Rd.of_own (B := B) (HPre.out.ext HB.out).own).ids (l := out.map pid) (i := i) (y := pid y) (by rw [List.getElem?_map, hy]; rfl) hi
      simp only [pid] at d0 d1 d2
      have HY := Lib.hid hy
      clear hy
      by_cases hyx : y = (s, q)
      · have e1 : y.1 = s := by rw [hyx]
        have e2 : y.2 = q := by rw [hyx]
        have HE := Lib.hid (show (s, q) ∈ out from (hyx ▸ List.mem_of_getElem? HY.out))
        rw [e1] at d1
        rw [e2] at d2
        clear hyx e1 e2
        go_wp2_with fail
        go_quiet (fail)
        go_wp2_with fail
        go_ret
        rw [HC.out, if_pos HE.out]
        exact ⟨some ad, c4, rfl, (HPre.out.ext (below_drewN HB.out _)).own, (grownBy_of_below (below_drewN HB.out _)).but _, fun j hj => .inr hj⟩
      · have hT : ¬ (y.1 = s ∧ y.2 = q) := fun h => hyx (Prod.ext h.1 h.2)
        have hT1 : decide (y.1 = s ∧ y.2 = q) = false := decide_eq_false hT
        have HE := Lib.hid hyx
        clear hyx
        go_wp2_with fail
        go_quiet (fail)
        go_wp2_with fail
        go_roundg (gk - 1)
        case measure => omega
        case rel => exact ⟨i + 1, by omega, by go_num, Lib.hid (by rw [take_succ_of HY.out, List.mem_append, not_or]; exact ⟨hnot.out, by simpa using fun h => HE.out h.symm⟩), HX.out.drewN _, below_drewN HB.out _⟩
    · have hil : i = out.length := by omega
      subst hil
      have HE := Lib.hid (show comeL p.ops p.parts.toNat f s q out = out ++ [(s, q)] from (by rw [HC.out, if_neg (by have := hnot.out; rwa [List.take_length] at this)]))
      have HO := Lib.hid (HPre.out.ext HB.out).own
      have hbs := HB.out.size
      go_wp2_with (first
       | (at_builtin; refine wpList_appF pt_app _ rfl (.tmp 33) (.tmp 35) rfl base _ out rfl (by rw [← ptsC_eq]; exact HO.out.alloc _) (s, q) _ rfl (Bk.new _ _ _) (by omega) (by simp only [World.size_alloc]; omega) ?_; intro A2 c2 w2 hown2 hg2 hc2 hj2; have HO2 := Lib.hid hown2; have HG2 := Lib.hid hg2; have HJ2 := Lib.hid hj2; clear hown2 hg2 hj2))
      go_ret
      rw [HE.out, show (out.length + 1) = (out ++ [(s, q)]).length from by simp]
      refine ⟨A2, c2, rfl, by rw [ptsC_eq]; exact HO2.out, ((grownBy_of_below (ext_alloc HB.out _)).but _).trans HG2.out, fun j hj => ?_⟩
      rcases HJ2.out with h | h
      · rw [h] at hj; exact .inr hj
      · rw [h] at hj
        cases hj
        exact .inl (by simp only [World.size_alloc]; omega)
end Go.Proofs.YtapjhliglmohgaaGreatDoor
