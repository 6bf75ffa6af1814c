/- What all laws share: Place. -/
import Derived.Test.YtngeeilkpnihmaaGreatDoorSkAZ
import Derived.Test.YtngeeilkpnihmaaGreatDoorProg
set_option linter.all false
namespace Go.Proofs.YtngeeilkpnihmaaGreatDoor
open Go Go.Sk Go.RowKit
theorem place_eq (v:Int) (n:Int) (hn:0<n):(v.tmod n+n).tmod n=v % n:=by
 have h0:0<=v.tmod n+n:=by have:=Int.lt_tmod_of_pos v hn;omega
 rw [Int.tmod_eq_emod_of_nonneg h0,Int.add_emod_right]
 rcases Int.le_total 0 v with h|h
 · rw [Int.tmod_eq_emod_of_nonneg h,Int.emod_emod_of_dvd _ (Int.dvd_refl n)]
 · have h3:v.tmod n= -((-v) % n):=by rw [<-Int.tmod_eq_emod_of_nonneg (by omega:0<= -v),Int.neg_tmod,Int.neg_neg]
   rw [h3]
   have h4: -v=n*(-v / n)+(-v) % n:=(Int.mul_ediv_add_emod (-v) n).symm
   have h5: -((-v) % n)=v+n*(-v / n):=by omega
   rw [h5,Int.add_mul_emod_self_left]
theorem tmod_emod (v n:Int) (hn:0<n):v.tmod n % n=v % n:=by
 have:=place_eq v n hn
 have h0:0<=v.tmod n+n:=by have:=Int.lt_tmod_of_pos v hn;omega
 rwa [Int.tmod_eq_emod_of_nonneg h0,Int.add_emod_right] at this
theorem tmod_bd (v n:Int) (hn:0<n): -n<v.tmod n/\v.tmod n<n:=⟨Int.lt_tmod_of_pos v hn,Int.tmod_lt_of_pos v hn⟩
theorem tmod_neg (v n:Int) (hn:0<n) (h:v.tmod n<0):v.tmod n+n=v % n:=by
 have hb:=tmod_bd v n hn
 rw [<-tmod_emod v n hn,<-Int.add_emod_right,Int.emod_eq_of_lt (by omega) (by omega)]
theorem tmod_pos (v n:Int) (hn:0<n) (h:0<=v.tmod n):v.tmod n=v % n:=by
 have hb:=tmod_bd v n hn
 rw [<-tmod_emod v n hn,Int.emod_eq_of_lt h hb.2]
set_option maxHeartbeats 400000 in
theorem Place_calls (v n:Int) (w:World) (hn:0<n) (hn2:n<=9223372036854775807):
 Calls Tryz.prog 15 #[.int .i64 v,.int .i64 n] w fun e w'=>e=.returned (.int .i64 (v % n))/\w=w':=by
 have hb:=tmod_bd v n hn
 have hne:(n == 0)=false:=beq_eq_false_iff_ne.2 (by omega)
 by_cases hs:v.tmod n<0
 · have he:=Lib.hid (tmod_neg v n hn hs)
   have hd:decide (v.tmod n<0)=true:=decide_eq_true hs
   go_enter Tryz.func15,Tryz.ntmps15
   go_wp2
   go_ret
   refine ⟨?_,rfl⟩
   rw [<-he.out]
   simp
 · have he:=Lib.hid (tmod_pos v n hn (by omega))
   have hd:decide (v.tmod n<0)=false:=decide_eq_false hs
   go_enter Tryz.func15,Tryz.ntmps15
   go_wp2
   go_ret
   refine ⟨?_,rfl⟩
   rw [<-he.out]
   simp
end Go.Proofs.YtngeeilkpnihmaaGreatDoor
