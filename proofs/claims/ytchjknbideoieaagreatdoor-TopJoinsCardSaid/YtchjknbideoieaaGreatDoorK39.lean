/- What is proved here: what mix of package stream comes to, at this seat's numbers. No condition. -/
import Derived.Test.YtchjknbideoieaaGreatDoorK03
import Derived.Test.YtchjknbideoieaaGreatDoorK10
namespace Go.Proofs.YtchjknbideoieaaGreatDoor
set_option maxRecDepth 100000
set_option maxHeartbeats 8000000
open Go.RowKit
theorem kRotL16 (x:UInt32) (w:World):Calls Tryz.prog 82 #[.int .u32 (x.toNat:Int),.int .i64 16] w (fun e w'=>e=.returned (.int .u32 ((rotl x 16).toNat:Int))∧w'=w):=by
 have hx:=x.toNat_lt
 have hb:bits .and .u64 16 31=16:=by decide +kernel
 go_enter Tryz.func82,Tryz.ntmps82
 go_wp2_with fail
 go_ret
 refine⟨ret_w ?_,rfl⟩
 rw[w_shr x 16 (by omega) 65536 rfl,w_shl x 16 (by omega) 65536 rfl,w_or]
 rfl
theorem kRotL12 (x:UInt32) (w:World):Calls Tryz.prog 82 #[.int .u32 (x.toNat:Int),.int .i64 12] w (fun e w'=>e=.returned (.int .u32 ((rotl x 12).toNat:Int))∧w'=w):=by
 have hx:=x.toNat_lt
 have hb:bits .and .u64 12 31=12:=by decide +kernel
 go_enter Tryz.func82,Tryz.ntmps82
 go_wp2_with fail
 go_ret
 refine⟨ret_w ?_,rfl⟩
 rw[w_shr x 20 (by omega) 1048576 rfl,w_shl x 12 (by omega) 4096 rfl,w_or]
 rfl
theorem kRotL8 (x:UInt32) (w:World):Calls Tryz.prog 82 #[.int .u32 (x.toNat:Int),.int .i64 8] w (fun e w'=>e=.returned (.int .u32 ((rotl x 8).toNat:Int))∧w'=w):=by
 have hx:=x.toNat_lt
 have hb:bits .and .u64 8 31=8:=by decide +kernel
 go_enter Tryz.func82,Tryz.ntmps82
 go_wp2_with fail
 go_ret
 refine⟨ret_w ?_,rfl⟩
 rw[w_shr x 24 (by omega) 16777216 rfl,w_shl x 8 (by omega) 256 rfl,w_or]
 rfl
theorem kRotL7 (x:UInt32) (w:World):Calls Tryz.prog 82 #[.int .u32 (x.toNat:Int),.int .i64 7] w (fun e w'=>e=.returned (.int .u32 ((rotl x 7).toNat:Int))∧w'=w):=by
 have hx:=x.toNat_lt
 have hb:bits .and .u64 7 31=7:=by decide +kernel
 go_enter Tryz.func82,Tryz.ntmps82
 go_wp2_with fail
 go_ret
 refine⟨ret_w ?_,rfl⟩
 rw[w_shr x 25 (by omega) 33554432 rfl,w_shl x 7 (by omega) 128 rfl,w_or]
 rfl
theorem kMix_any (q:Qd) (w:World):Calls Tryz.prog 146 #[.int .u32 (q.a.toNat:Int),.int .u32 (q.b.toNat:Int),.int .u32 (q.c.toNat:Int),.int .u32 (q.d.toNat:Int)] w fun e w'=>e=.returned (.tuple #[.int .u32 ((mixQ q).a.toNat:Int),.int .u32 ((mixQ q).b.toNat:Int),.int .u32 ((mixQ q).c.toNat:Int),.int .u32 ((mixQ q).d.toNat:Int)])∧w'=w:=by
 obtain⟨a,b,c,d⟩:=q
 obtain⟨a1,ha1⟩:∃a1,a1=a+b:=⟨_,rfl⟩
 obtain⟨x1,hx1⟩:∃x1,x1=d ^^^ a1:=⟨_,rfl⟩
 obtain⟨d1,hd1⟩:∃d1,d1=rotl x1 16:=⟨_,rfl⟩
 obtain⟨c1,hc1⟩:∃c1,c1=c+d1:=⟨_,rfl⟩
 obtain⟨x2,hx2⟩:∃x2,x2=b ^^^ c1:=⟨_,rfl⟩
 obtain⟨b1,hb1⟩:∃b1,b1=rotl x2 12:=⟨_,rfl⟩
 obtain⟨a2,ha2⟩:∃a2,a2=a1+b1:=⟨_,rfl⟩
 obtain⟨x3,hx3⟩:∃x3,x3=d1 ^^^ a2:=⟨_,rfl⟩
 obtain⟨d2,hd2⟩:∃d2,d2=rotl x3 8:=⟨_,rfl⟩
 obtain⟨c2,hc2⟩:∃c2,c2=c1+d2:=⟨_,rfl⟩
 obtain⟨x4,hx4⟩:∃x4,x4=b1 ^^^ c2:=⟨_,rfl⟩
 obtain⟨b2,hb2⟩:∃b2,b2=rotl x4 7:=⟨_,rfl⟩
 have hm:mixQ ⟨a,b,c,d⟩=⟨a2,b2,c2,d2⟩:=by
  subst hb2 hx4 hc2 hd2 hx3 ha2 hb1 hx2 hc1 hd1 hx1 ha1
  rfl
 rw[hm]
 have g1:((a.toNat:Int)+(b.toNat:Int))%4294967296=(a1.toNat:Int):=by rw[ha1];exact w_add _ _
 have g2:bits .xor .u32 (d.toNat:Int) (a1.toNat:Int)=(x1.toNat:Int):=by rw[hx1];exact w_xor _ _
 have g3:((c.toNat:Int)+(d1.toNat:Int))%4294967296=(c1.toNat:Int):=by rw[hc1];exact w_add _ _
 have g4:bits .xor .u32 (b.toNat:Int) (c1.toNat:Int)=(x2.toNat:Int):=by rw[hx2];exact w_xor _ _
 have g5:((a1.toNat:Int)+(b1.toNat:Int))%4294967296=(a2.toNat:Int):=by rw[ha2];exact w_add _ _
 have g6:bits .xor .u32 (d1.toNat:Int) (a2.toNat:Int)=(x3.toNat:Int):=by rw[hx3];exact w_xor _ _
 have g7:((c1.toNat:Int)+(d2.toNat:Int))%4294967296=(c2.toNat:Int):=by rw[hc2];exact w_add _ _
 have g8:bits .xor .u32 (b1.toNat:Int) (c2.toNat:Int)=(x4.toNat:Int):=by rw[hx4];exact w_xor _ _
 have R1:=Lib.hid (kRotL16 x1 w)
 have R2:=Lib.hid (kRotL12 x2 w)
 have R3:=Lib.hid (kRotL8 x3 w)
 have R4:=Lib.hid (kRotL7 x4 w)
 rw[←hd1] at R1
 rw[←hb1] at R2
 rw[←hd2] at R3
 rw[←hb2] at R4
 clear hm ha1 hx1 hd1 hc1 hx2 hb1 ha2 hx3 hd2 hc2 hx4 hb2
 go_enter Tryz.func146,Tryz.ntmps146
 go_wp2_with fail
 refine R1.out.mono ?_
 rintro _ w1 ⟨rfl,rfl⟩
 go_wp2_with fail
 refine R2.out.mono ?_
 rintro _ w2 ⟨rfl,rfl⟩
 go_wp2_with fail
 refine R3.out.mono ?_
 rintro _ w3 ⟨rfl,rfl⟩
 go_wp2_with fail
 refine R4.out.mono ?_
 rintro _ w4 ⟨rfl,rfl⟩
 go_wp2_with fail
 exact bodyPost_ret (v:=.tuple #[.int .u32 (a2.toNat:Int),.int .u32 (b2.toNat:Int),.int .u32 (c2.toNat:Int),.int .u32 (d2.toNat:Int)]) (by simp[results,Tryz.results146,go_sem] <;> rfl) rfl ⟨rfl,rfl⟩
end Go.Proofs.YtchjknbideoieaaGreatDoor
