/- What is proved here: what sha.right and the reference's turn come to, at this seat's numbers. No condition. bytes that are mixed, padded keys byte by byte, equality by what is unlike. No program in sight but the words for bytes' operations. -/
import Derived.Test.YtchjknbideoieaaGreatDoorK01
import Derived.Test.YtchjknbideoieaaGreatDoorK06
import Derived.Laws.BitsAllLaws
import Derived.BigQuiet
namespace Go.Proofs.YtchjknbideoieaaGreatDoor
set_option maxRecDepth 100000
set_option maxHeartbeats 8000000
open Go.RowKit
theorem w_or (a b:UInt32):bits .or .u32 (a.toNat:Int) (b.toNat:Int)=((a ||| b).toNat:Int):=by rw[u32_or_nat _ _ a.toNat_lt b.toNat_lt,UInt32.toNat_or]
theorem w_and (a b:UInt32):bits .and .u32 (a.toNat:Int) (b.toNat:Int)=((a &&& b).toNat:Int):=by rw[u32_and_nat _ _ a.toNat_lt b.toNat_lt,UInt32.toNat_and]
theorem w_xor (a b:UInt32):bits .xor .u32 (a.toNat:Int) (b.toNat:Int)=((a ^^^ b).toNat:Int):=by rw[u32_xor_nat _ _ a.toNat_lt b.toNat_lt,UInt32.toNat_xor]
theorem w_add (a b:UInt32):((a.toNat:Int)+(b.toNat:Int))%4294967296=((a+b).toNat:Int):=by rw[UInt32.toNat_add];omega
theorem w_shr (x:UInt32) (k:Nat) (hk:k<32) (m:Int) (hm:m=((2 ^ k:Nat):Int)):(x.toNat:Int)/m=((x >>> UInt32.ofNat k).toNat:Int):=by
 rw[hm,UInt32.toNat_shiftRight,UInt32.toNat_ofNat_of_lt' (by show k<4294967296;omega),Nat.mod_eq_of_lt hk,Nat.shiftRight_eq_div_pow]
 rfl
theorem w_shl (x:UInt32) (k:Nat) (hk:k<32) (m:Int) (hm:m=((2 ^ k:Nat):Int)):(x.toNat:Int)*m%4294967296=((x <<< UInt32.ofNat k).toNat:Int):=by
 rw[hm,UInt32.toNat_shiftLeft,UInt32.toNat_ofNat_of_lt' (by show k<4294967296;omega),Nat.mod_eq_of_lt hk,Nat.shiftLeft_eq]
 rfl
/- the operations under names of their own: the walk's simp knows nothing of them -/
def orW (a b:UInt32):UInt32:=a ||| b
def andW (a b:UInt32):UInt32:=a &&& b
def xorW (a b:UInt32):UInt32:=a ^^^ b
def addW (a b:UInt32):UInt32:=a+b
def shrW (x:UInt32) (k:Nat):UInt32:=x >>> UInt32.ofNat k
def shlW (x:UInt32) (k:Nat):UInt32:=x <<< UInt32.ofNat k
def ofB (b:UInt8):UInt32:=b.toUInt32
theorem W_or (a b:UInt32):bits .or .u32 (a.toNat:Int) (b.toNat:Int)=((orW a b).toNat:Int):=w_or a b
theorem W_and (a b:UInt32):bits .and .u32 (a.toNat:Int) (b.toNat:Int)=((andW a b).toNat:Int):=w_and a b
theorem W_xor (a b:UInt32):bits .xor .u32 (a.toNat:Int) (b.toNat:Int)=((xorW a b).toNat:Int):=w_xor a b
theorem W_add (a b:UInt32):((a.toNat:Int)+(b.toNat:Int))%(4294967296:Int)=((addW a b).toNat:Int):=w_add a b
theorem W_addk (a b:UInt32):IntKind.u32.wrap ((a.toNat:Int)+(b.toNat:Int))=((addW a b).toNat:Int):=by rw[IntKind.wrap_u32'];exact w_add a b
theorem W_shr (x:UInt32) (k:Nat) (hk:k<32) (m:Int) (hm:m=((2 ^ k:Nat):Int)):(x.toNat:Int)/m=((shrW x k).toNat:Int):=w_shr x k hk m hm
theorem W_shl (x:UInt32) (k:Nat) (hk:k<32) (m:Int) (hm:m=((2 ^ k:Nat):Int)):(x.toNat:Int)*m%(4294967296:Int)=((shlW x k).toNat:Int):=w_shl x k hk m hm
theorem ret_w {a b:Int} (h:a=b):Ending.returned (.int .u32 a)=Ending.returned (.int .u32 b):=by rw[h]
theorem or_rot (x k j:UInt32) (h:j=32-k):(x <<< j) ||| (x >>> k)=rotr x k:=by unfold rotr;rw[h,UInt32.or_comm]
theorem kRight2 (x:UInt32) (w:World):Calls Tryz.prog 147 #[.int .u32 (x.toNat:Int),.int .i64 2] w fun e w'=>e=.returned (.int .u32 ((rotr x 2).toNat:Int))∧w'=w:=by
 have hx:=x.toNat_lt
 have hb:bits .and .u64 (IntKind.u64.wrap (-2)) 31=30:=by decide +kernel
 have hc:Calls Tryz.prog 82 #[.int .u32 (x.toNat:Int),.int .i64 (-2)] w (fun e w'=>e=.returned (.int .u32 ((rotr x 2).toNat:Int))∧w'=w):=by
  go_enter Tryz.func82,Tryz.ntmps82
  go_wp2_with fail
  go_ret
  refine⟨ret_w ?_,rfl⟩
  rw[w_shr x 2 (by omega) 4 rfl,w_shl x 30 (by omega) 1073741824 rfl,w_or]
  rw[or_rot x _ _ (by decide)]
  rfl
 clear hb
 go_enter Tryz.func147,Tryz.ntmps147
 go_wp2_with fail
 refine hc.mono ?_
 rintro e w' ⟨rfl,rfl⟩
 go_wp2_with fail
 go_ret
 exact⟨rfl,rfl⟩
theorem kRight6 (x:UInt32) (w:World):Calls Tryz.prog 147 #[.int .u32 (x.toNat:Int),.int .i64 6] w fun e w'=>e=.returned (.int .u32 ((rotr x 6).toNat:Int))∧w'=w:=by
 have hx:=x.toNat_lt
 have hb:bits .and .u64 (IntKind.u64.wrap (-6)) 31=26:=by decide +kernel
 have hc:Calls Tryz.prog 82 #[.int .u32 (x.toNat:Int),.int .i64 (-6)] w (fun e w'=>e=.returned (.int .u32 ((rotr x 6).toNat:Int))∧w'=w):=by
  go_enter Tryz.func82,Tryz.ntmps82
  go_wp2_with fail
  go_ret
  refine⟨ret_w ?_,rfl⟩
  rw[w_shr x 6 (by omega) 64 rfl,w_shl x 26 (by omega) 67108864 rfl,w_or]
  rw[or_rot x _ _ (by decide)]
  rfl
 clear hb
 go_enter Tryz.func147,Tryz.ntmps147
 go_wp2_with fail
 refine hc.mono ?_
 rintro e w' ⟨rfl,rfl⟩
 go_wp2_with fail
 go_ret
 exact⟨rfl,rfl⟩
theorem kRightq6 (x:UInt32) (w:World) (m:Nat):Calls Tryz.prog 147 #[.int .u32 (x.toNat:Int),.int .i64 6] (w.drewN m) fun e w'=>e=.returned (.int .u32 ((rotr x 6).toNat:Int))∧∃n,w'=w.drewN n:=(kRight6 x _).mono fun _ _ h=>⟨h.1,m,h.2⟩
theorem kRight7 (x:UInt32) (w:World):Calls Tryz.prog 147 #[.int .u32 (x.toNat:Int),.int .i64 7] w fun e w'=>e=.returned (.int .u32 ((rotr x 7).toNat:Int))∧w'=w:=by
 have hx:=x.toNat_lt
 have hb:bits .and .u64 (IntKind.u64.wrap (-7)) 31=25:=by decide +kernel
 have hc:Calls Tryz.prog 82 #[.int .u32 (x.toNat:Int),.int .i64 (-7)] w (fun e w'=>e=.returned (.int .u32 ((rotr x 7).toNat:Int))∧w'=w):=by
  go_enter Tryz.func82,Tryz.ntmps82
  go_wp2_with fail
  go_ret
  refine⟨ret_w ?_,rfl⟩
  rw[w_shr x 7 (by omega) 128 rfl,w_shl x 25 (by omega) 33554432 rfl,w_or]
  rw[or_rot x _ _ (by decide)]
  rfl
 clear hb
 go_enter Tryz.func147,Tryz.ntmps147
 go_wp2_with fail
 refine hc.mono ?_
 rintro e w' ⟨rfl,rfl⟩
 go_wp2_with fail
 go_ret
 exact⟨rfl,rfl⟩
theorem kRight11 (x:UInt32) (w:World):Calls Tryz.prog 147 #[.int .u32 (x.toNat:Int),.int .i64 11] w fun e w'=>e=.returned (.int .u32 ((rotr x 11).toNat:Int))∧w'=w:=by
 have hx:=x.toNat_lt
 have hb:bits .and .u64 (IntKind.u64.wrap (-11)) 31=21:=by decide +kernel
 have hc:Calls Tryz.prog 82 #[.int .u32 (x.toNat:Int),.int .i64 (-11)] w (fun e w'=>e=.returned (.int .u32 ((rotr x 11).toNat:Int))∧w'=w):=by
  go_enter Tryz.func82,Tryz.ntmps82
  go_wp2_with fail
  go_ret
  refine⟨ret_w ?_,rfl⟩
  rw[w_shr x 11 (by omega) 2048 rfl,w_shl x 21 (by omega) 2097152 rfl,w_or]
  rw[or_rot x _ _ (by decide)]
  rfl
 clear hb
 go_enter Tryz.func147,Tryz.ntmps147
 go_wp2_with fail
 refine hc.mono ?_
 rintro e w' ⟨rfl,rfl⟩
 go_wp2_with fail
 go_ret
 exact⟨rfl,rfl⟩
theorem kRightq11 (x:UInt32) (w:World) (m:Nat):Calls Tryz.prog 147 #[.int .u32 (x.toNat:Int),.int .i64 11] (w.drewN m) fun e w'=>e=.returned (.int .u32 ((rotr x 11).toNat:Int))∧∃n,w'=w.drewN n:=(kRight11 x _).mono fun _ _ h=>⟨h.1,m,h.2⟩
theorem kRight13 (x:UInt32) (w:World):Calls Tryz.prog 147 #[.int .u32 (x.toNat:Int),.int .i64 13] w fun e w'=>e=.returned (.int .u32 ((rotr x 13).toNat:Int))∧w'=w:=by
 have hx:=x.toNat_lt
 have hb:bits .and .u64 (IntKind.u64.wrap (-13)) 31=19:=by decide +kernel
 have hc:Calls Tryz.prog 82 #[.int .u32 (x.toNat:Int),.int .i64 (-13)] w (fun e w'=>e=.returned (.int .u32 ((rotr x 13).toNat:Int))∧w'=w):=by
  go_enter Tryz.func82,Tryz.ntmps82
  go_wp2_with fail
  go_ret
  refine⟨ret_w ?_,rfl⟩
  rw[w_shr x 13 (by omega) 8192 rfl,w_shl x 19 (by omega) 524288 rfl,w_or]
  rw[or_rot x _ _ (by decide)]
  rfl
 clear hb
 go_enter Tryz.func147,Tryz.ntmps147
 go_wp2_with fail
 refine hc.mono ?_
 rintro e w' ⟨rfl,rfl⟩
 go_wp2_with fail
 go_ret
 exact⟨rfl,rfl⟩
theorem kRight17 (x:UInt32) (w:World):Calls Tryz.prog 147 #[.int .u32 (x.toNat:Int),.int .i64 17] w fun e w'=>e=.returned (.int .u32 ((rotr x 17).toNat:Int))∧w'=w:=by
 have hx:=x.toNat_lt
 have hb:bits .and .u64 (IntKind.u64.wrap (-17)) 31=15:=by decide +kernel
 have hc:Calls Tryz.prog 82 #[.int .u32 (x.toNat:Int),.int .i64 (-17)] w (fun e w'=>e=.returned (.int .u32 ((rotr x 17).toNat:Int))∧w'=w):=by
  go_enter Tryz.func82,Tryz.ntmps82
  go_wp2_with fail
  go_ret
  refine⟨ret_w ?_,rfl⟩
  rw[w_shr x 17 (by omega) 131072 rfl,w_shl x 15 (by omega) 32768 rfl,w_or]
  rw[or_rot x _ _ (by decide)]
  rfl
 clear hb
 go_enter Tryz.func147,Tryz.ntmps147
 go_wp2_with fail
 refine hc.mono ?_
 rintro e w' ⟨rfl,rfl⟩
 go_wp2_with fail
 go_ret
 exact⟨rfl,rfl⟩
theorem kRight18 (x:UInt32) (w:World):Calls Tryz.prog 147 #[.int .u32 (x.toNat:Int),.int .i64 18] w fun e w'=>e=.returned (.int .u32 ((rotr x 18).toNat:Int))∧w'=w:=by
 have hx:=x.toNat_lt
 have hb:bits .and .u64 (IntKind.u64.wrap (-18)) 31=14:=by decide +kernel
 have hc:Calls Tryz.prog 82 #[.int .u32 (x.toNat:Int),.int .i64 (-18)] w (fun e w'=>e=.returned (.int .u32 ((rotr x 18).toNat:Int))∧w'=w):=by
  go_enter Tryz.func82,Tryz.ntmps82
  go_wp2_with fail
  go_ret
  refine⟨ret_w ?_,rfl⟩
  rw[w_shr x 18 (by omega) 262144 rfl,w_shl x 14 (by omega) 16384 rfl,w_or]
  rw[or_rot x _ _ (by decide)]
  rfl
 clear hb
 go_enter Tryz.func147,Tryz.ntmps147
 go_wp2_with fail
 refine hc.mono ?_
 rintro e w' ⟨rfl,rfl⟩
 go_wp2_with fail
 go_ret
 exact⟨rfl,rfl⟩
theorem kRight19 (x:UInt32) (w:World):Calls Tryz.prog 147 #[.int .u32 (x.toNat:Int),.int .i64 19] w fun e w'=>e=.returned (.int .u32 ((rotr x 19).toNat:Int))∧w'=w:=by
 have hx:=x.toNat_lt
 have hb:bits .and .u64 (IntKind.u64.wrap (-19)) 31=13:=by decide +kernel
 have hc:Calls Tryz.prog 82 #[.int .u32 (x.toNat:Int),.int .i64 (-19)] w (fun e w'=>e=.returned (.int .u32 ((rotr x 19).toNat:Int))∧w'=w):=by
  go_enter Tryz.func82,Tryz.ntmps82
  go_wp2_with fail
  go_ret
  refine⟨ret_w ?_,rfl⟩
  rw[w_shr x 19 (by omega) 524288 rfl,w_shl x 13 (by omega) 8192 rfl,w_or]
  rw[or_rot x _ _ (by decide)]
  rfl
 clear hb
 go_enter Tryz.func147,Tryz.ntmps147
 go_wp2_with fail
 refine hc.mono ?_
 rintro e w' ⟨rfl,rfl⟩
 go_wp2_with fail
 go_ret
 exact⟨rfl,rfl⟩
theorem kRight22 (x:UInt32) (w:World):Calls Tryz.prog 147 #[.int .u32 (x.toNat:Int),.int .i64 22] w fun e w'=>e=.returned (.int .u32 ((rotr x 22).toNat:Int))∧w'=w:=by
 have hx:=x.toNat_lt
 have hb:bits .and .u64 (IntKind.u64.wrap (-22)) 31=10:=by decide +kernel
 have hc:Calls Tryz.prog 82 #[.int .u32 (x.toNat:Int),.int .i64 (-22)] w (fun e w'=>e=.returned (.int .u32 ((rotr x 22).toNat:Int))∧w'=w):=by
  go_enter Tryz.func82,Tryz.ntmps82
  go_wp2_with fail
  go_ret
  refine⟨ret_w ?_,rfl⟩
  rw[w_shr x 22 (by omega) 4194304 rfl,w_shl x 10 (by omega) 1024 rfl,w_or]
  rw[or_rot x _ _ (by decide)]
  rfl
 clear hb
 go_enter Tryz.func147,Tryz.ntmps147
 go_wp2_with fail
 refine hc.mono ?_
 rintro e w' ⟨rfl,rfl⟩
 go_wp2_with fail
 go_ret
 exact⟨rfl,rfl⟩
theorem kRight25 (x:UInt32) (w:World):Calls Tryz.prog 147 #[.int .u32 (x.toNat:Int),.int .i64 25] w fun e w'=>e=.returned (.int .u32 ((rotr x 25).toNat:Int))∧w'=w:=by
 have hx:=x.toNat_lt
 have hb:bits .and .u64 (IntKind.u64.wrap (-25)) 31=7:=by decide +kernel
 have hc:Calls Tryz.prog 82 #[.int .u32 (x.toNat:Int),.int .i64 (-25)] w (fun e w'=>e=.returned (.int .u32 ((rotr x 25).toNat:Int))∧w'=w):=by
  go_enter Tryz.func82,Tryz.ntmps82
  go_wp2_with fail
  go_ret
  refine⟨ret_w ?_,rfl⟩
  rw[w_shr x 25 (by omega) 33554432 rfl,w_shl x 7 (by omega) 128 rfl,w_or]
  rw[or_rot x _ _ (by decide)]
  rfl
 clear hb
 go_enter Tryz.func147,Tryz.ntmps147
 go_wp2_with fail
 refine hc.mono ?_
 rintro e w' ⟨rfl,rfl⟩
 go_wp2_with fail
 go_ret
 exact⟨rfl,rfl⟩
theorem kRightq25 (x:UInt32) (w:World) (m:Nat):Calls Tryz.prog 147 #[.int .u32 (x.toNat:Int),.int .i64 25] (w.drewN m) fun e w'=>e=.returned (.int .u32 ((rotr x 25).toNat:Int))∧∃n,w'=w.drewN n:=(kRight25 x _).mono fun _ _ h=>⟨h.1,m,h.2⟩
end Go.Proofs.YtchjknbideoieaaGreatDoor
namespace Go.Proofs.YtchjknbideoieaaGreatDoor
set_option maxRecDepth 100000
set_option maxHeartbeats 8000000
open Go.RowKit
def xor8 (a b:UInt8):UInt8:=a ^^^ b
theorem X_xor (a b:UInt8):bits .xor .u8 (a.toNat:Int) (b.toNat:Int)=((xor8 a b).toNat:Int):=by unfold xor8;rw[u8_xor_nat _ _ a.toNat_lt b.toNat_lt,UInt8.toNat_xor]
theorem xor8_comm (a b:UInt8):xor8 a b=xor8 b a:=UInt8.xor_comm a b
theorem mix_at (x:UInt8) (k:List UInt8) (i:Nat) (hi:i<64):(xorL x (padK k))[i]? = some (if h:i<(keyOf64 k).length then xor8 x ((keyOf64 k)[i]'h) else x):=by
 unfold xorL padK
 rw[List.getElem?_map]
 by_cases h:i<(keyOf64 k).length
 ·rw[List.getElem?_append_left h,List.getElem?_eq_getElem h,dif_pos h,xor8_comm]
  rfl
 ·have hl:=keyOf64_length k
  rw[List.getElem?_append_right (by omega),List.getElem?_replicate,if_pos (by omega),dif_neg h]
  simp
end Go.Proofs.YtchjknbideoieaaGreatDoor
