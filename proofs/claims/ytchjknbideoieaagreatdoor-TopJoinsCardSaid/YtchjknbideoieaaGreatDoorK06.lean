/- What is proved here: the words of Mem at this seat's type of bytes: a row of bytes that the call owns, and the steps of a walk over append onto it: of a slice of bytes, of one byte, of a text. No condition. what the codec's laying functions come to, at this seat's numbers: Num, Str, Fix lay behind a copy of the bytes. Conditions: the lengths together below 2^47. what the .. -/
import Derived.Test.YtchjknbideoieaaGreatDoorProg
import Derived.Test.YtchjknbideoieaaGreatDoorK01
import Derived.Laws.IdiomStrings
import Derived.Test.YtchjknbideoieaaGreatDoorK02
namespace Go.Proofs.YtchjknbideoieaaGreatDoor
set_option maxRecDepth 100000
set_option maxHeartbeats 8000000
open Go.RowKit
theorem infoB:(Tryz.prog.info? 5).map (fun i=>(i.zero,i.size,i.bytes))=some (some (.int .u8 0),1,1):=by kernel_rfl
def OB (w:World) (base:Nat) (v:Value) (l:List UInt8):Prop:=w.ownsRow base 5 1 v l.length (bv l)
section
variable {w w':World} {B base base':Nat} {v:Value} {l:List UInt8}
theorem OB.own (h:OB w base v l):w.ownsRow base 5 1 v l.length (bv l):=h
theorem OB.nil_ (w:World) (base:Nat):OB w base (.slice none 0 0) []:=World.ownsRow_nil w base 5 1
theorem OB.lit (w:World) (l:List UInt8) (hb:base≤w.heap.size) (hl:l.length≤maxLen):OB (w.alloc (.cells (bv l).toArray 5)) base (.slice (some ⟨w.heap.size,0,none⟩) l.length l.length) l:=by
 have:=World.ownsRow_lit (base:=base) (e:=5) (size:=1) w (bv l).toArray l.length hb hl (by simp[bv])
 unfold OB;simpa using this
theorem OB.lit0 (w:World) (hb:base≤w.heap.size):OB (w.alloc (.cells #[] 5)) base (.slice (some ⟨w.heap.size,0,none⟩) 0 0) []:=OB.lit w [] hb (Nat.zero_le _)
theorem SB.new1 (w:World) (b:UInt8):SB (w.alloc (.cells #[u8v b] 5)) (w.heap.size+1) (.slice (some ⟨w.heap.size,0,none⟩) 1 1) [b]:=⟨_,_,rfl,Nat.le_refl _,by simp[maxLen],Rd.new1 w _ _⟩
theorem SB.newAt {W:World} {g B:Nat} (b:UInt8) (hg:g=W.heap.size) (hB:g<B):SB (W.alloc (.cells #[u8v b] 5)) B (.slice (some ⟨g,0,none⟩) 1 1) [b]:=by
 subst hg
 exact (SB.new1 W b).more hB
theorem OB.below (h:OB w base v l) (hb:Below B w w') (hB:w.heap.size≤B):OB w' base v l:=own_below h hb hB
theorem OB.drew (h:OB w base v l):OB w.drew base v l:=h
theorem OB.drewN (h:OB w base v l) (k:Nat):OB (w.drewN k) base v l:=h
theorem OB.alloc (h:OB w base v l) (o:Obj):OB (w.alloc o) base v l:=World.ownsRow.alloc h o
theorem OB.rebase (h:OB w base v l) (hB:base'≤base):OB w base' v l:=own_base h hB
theorem OB.sb (h:OB w base v l):SB w w.heap.size v l:=Sl.of_own h
theorem OB.lt (h:OB w base v l):∀k,v.ownBlock=some k→base≤k∧k<w.heap.size:=World.ownsRow.lt h
theorem OB.setCell (h:OB w base v l) {a:Addr} (ha:v.ownBlock≠some a.block) (u:Value):OB (w.setCell a u) base v l:=by
 refine World.ownsRow.kept h (row:=some a.block) ⟨rfl,rfl,rfl,by simp[World.setCell],fun k _ hk=>Below.heap_setCell _ _ _ _ (fun e=>hk (by rw[e]))⟩ (Or.inr ha)
theorem OB.grown (h:OB w base v l) {row:Option Nat} (hg:w.grownBy w' row) (hne:v.ownBlock=none∨v.ownBlock≠row):OB w' base v l:=World.ownsRow.kept h hg hne
end
section
variable {ops:Array Oper} {rest:List Oper} {o:Oper} {a:Act} {K:Act→World→Prop} {Q:Exit→Act→World→Prop} {w:World} {E:Prop}
theorem wp_appB (s x:Operand)
  (ho:o.op=.call { callee:=.builtin .append,args:=#[s,x],argTypes:=#[56,56] })
  (base:Nat) (v:Value) (l:List UInt8) (hs:a.eval s=v) (hown:OB w base v l)
  (B:Nat) (u:Value) (m:List UInt8) (hx:a.eval x=u) (hr:SB w B u m) (hlen:l.length+m.length≤140737488355328) (hbase:base≤w.heap.size)
  (h:∀v' w',OB w' base v' (l++m)→w.grownBy w' v.ownBlock→(v'.ownBlock=v.ownBlock∨v'.ownBlock=some w.heap.size)→Below base w w'→K (a.put o.dst v') w'):o.wp Tryz.prog a w K Q:=by
 obtain⟨i0,hi0,hz0,hz1,hz2⟩:=info_parts infoB
 refine wp_app w s x 56 ho base 5 i0 _ 1 1 Tryz.underlying56 hi0 hz0 hz1 hz2 rfl (by omega) v l.length (bv l) hs hown B m.length u (bv m) hx hr (bv_one m) (by simp only[maxLen];omega) (Fits.of _ _ _ (by omega)) hbase ?_
 intro v' w' h1 h2 h3 h4
 refine h v' w' ?_ h2 h3 h4
 unfold OB
 rw[List.length_append,bv_append]
 exact h1
theorem wl_appB (hgd:Region.wanted o (yielded ops a.tmps)=true) (s x:Operand)
  (ho:o.op=.call { callee:=.builtin .append,args:=#[s,x],argTypes:=#[56,56] })
  (base:Nat) (v:Value) (l:List UInt8) (hs:a.eval s=v) (hown:OB w base v l)
  (B:Nat) (u:Value) (m:List UInt8) (hx:a.eval x=u) (hr:SB w B u m) (hlen:l.length+m.length≤140737488355328) (hbase:base≤w.heap.size)
  (h:∀v' w',OB w' base v' (l++m)→w.grownBy w' v.ownBlock→(v'.ownBlock=v.ownBlock∨v'.ownBlock=some w.heap.size)→Below base w w'→wpList Tryz.prog ops Q rest (a.put o.dst v') w'):wpList Tryz.prog ops Q (o::rest) a w :=
 wl_of hgd fun _K hK=>wp_appB s x ho base v l hs hown B u m hx hr hlen hbase fun v' w' a b c d=>hK _ _ (h v' w' a b c d)
theorem st_appB (hgd:Region.wanted o (yielded ops a.tmps)=true) (s x:Operand)
  (ho:o.op=.call { callee:=.builtin .append,args:=#[s,x],argTypes:=#[56,56] })
  (base:Nat) (v:Value) (l:List UInt8) (hs:a.eval s=v) (hown:OB w base v l)
  (B:Nat) (u:Value) (m:List UInt8) (hx:a.eval x=u) (hr:SB w B u m) (hlen:l.length+m.length≤140737488355328) (hbase:base≤w.heap.size)
  (h:∀v' w',OB w' base v' (l++m)→w.grownBy w' v.ownBlock→(v'.ownBlock=v.ownBlock∨v'.ownBlock=some w.heap.size)→Below base w w'→K (a.put o.dst v') w'):if Region.wanted o (yielded ops a.tmps)=true then o.wp Tryz.prog a w K Q else E :=
 st_of hgd (wp_appB s x ho base v l hs hown B u m hx hr hlen hbase h)
theorem wl_app1 (hgd:Region.wanted o (yielded ops a.tmps)=true) (s x:Operand)
  (ho:o.op=.call { callee:=.builtin .append,args:=#[s,x],argTypes:=#[56,56] })
  (base:Nat) (v:Value) (l:List UInt8) (hs:a.eval s=v) (hown:OB w base v l)
  (z:Value) (b:UInt8) (hz:z=u8v b) {g:Nat} (hg:g=w.heap.size) (hx:a.eval x=.slice (some ⟨g,0,none⟩) 1 1) (hlen:l.length+1≤140737488355328) (hbase:base≤w.heap.size)
  (h:∀v' w',OB w' base v' (l++[b])→w.grownBy w' v.ownBlock→(v'.ownBlock=v.ownBlock∨v'.ownBlock=some (w.heap.size+1))→Below base w w'→wpList Tryz.prog ops Q rest (a.put o.dst v') w'):wpList Tryz.prog ops Q (o::rest) a (w.alloc (.cells #[z] 5)):=by
 subst hz
 refine wl_appB hgd s x ho base v l hs (hown.alloc _) (w.heap.size+1) _ [b] hx (SB.newAt b hg (by omega)) hlen (by simp;omega) ?_
 intro v' w' h1 h2 h3 h4
 have ha:w.grownBy (w.alloc (.cells #[u8v b] 5)) v.ownBlock:=World.grownBy_alloc w _ _
 refine h v' w' h1 (ha.trans h2) (by simpa using h3) (((Below.refl _ _).alloc hbase _).trans h4)
theorem wp_appS (s x:Operand)
  (ho:o.op=.call { callee:=.builtin .append,args:=#[s,x],argTypes:=#[56,9] })
  (base:Nat) (v:Value) (l:List UInt8) (hs:a.eval s=v) (hown:OB w base v l)
  (t:ByteArray) (hx:a.eval x=.string t) (hlen:l.length+t.size≤140737488355328) (hbase:base≤w.heap.size)
  (h:∀v' w',OB w' base v' (l++t.data.toList)→w.grownBy w' v.ownBlock→Below base w w'→K (a.put o.dst v') w'):o.wp Tryz.prog a w K Q:=by
 obtain⟨i0,hi0,hz0,hz1,hz2⟩:=info_parts infoB
 obtain⟨v',w',hrun,h1,h2,_⟩:=Lib.run_append_own_string (P:=Tryz.prog) w base 56 9 o.type 5 i0 Tryz.underlying56 Tryz.underlying9 hi0 hz0 hz1 hz2 v l.length (bv l) hown t (by simp only[maxLen];omega) (by omega) hbase
 unfold Oper.wp execOp
 simp only[ho,resolve,invoke,builtin,Sem.run_bind,Sem.run_pure,Result.andThen_ok,List.map_toArray,List.map_cons,List.map_nil,hs,hx,hrun]
 have e:t.data.toList.length=t.size:=by rw[Array.length_toList];rfl
 refine h v' w' ?_ h2 ((Below.refl _ _).grown h2 hbase fun k hk=>(hown.lt k hk).1)
 unfold OB
 rw[List.length_append,bv_append,e,←strCells_bv]
 exact h1
theorem wl_appS (hgd:Region.wanted o (yielded ops a.tmps)=true) (s x:Operand)
  (ho:o.op=.call { callee:=.builtin .append,args:=#[s,x],argTypes:=#[56,9] })
  (base:Nat) (v:Value) (l:List UInt8) (hs:a.eval s=v) (hown:OB w base v l)
  (t:ByteArray) (hx:a.eval x=.string t) (hlen:l.length+t.size≤140737488355328) (hbase:base≤w.heap.size)
  (h:∀v' w',OB w' base v' (l++t.data.toList)→w.grownBy w' v.ownBlock→Below base w w'→wpList Tryz.prog ops Q rest (a.put o.dst v') w'):wpList Tryz.prog ops Q (o::rest) a w :=
 wl_of hgd fun _K hK=>wp_appS s x ho base v l hs hown t hx hlen hbase fun v' w' a b c=>hK _ _ (h v' w' a b c)
theorem wl_s2b (hgd:Region.wanted o (yielded ops a.tmps)=true) (x:Operand) (ho:o.op=.convert 9 56 x) (t:ByteArray) (hx:a.eval x=.string t) (ht:t.size≤maxLen)
  (h:∀v' w',SB w' w'.heap.size v' t.data.toList→v'.ownBlock=some w.heap.size→Below w.heap.size w w'→w'.heap.size=w.heap.size+1→wpList Tryz.prog ops Q rest (a.put o.dst v') w'):wpList Tryz.prog ops Q (o::rest) a w:=by
 refine wl_of hgd fun K hK=>?_
 have hr:=run_bytes_of_string (P:=Tryz.prog) w 9 56 5 t Tryz.underlying9 Tryz.underlying56 Tryz.underlying5
 unfold Oper.wp execOp
 simp only[ho,hx,Sem.run_bind,Sem.run_pure,Result.andThen_ok,hr]
 have e:t.data.toList.length=t.size:=by rw[Array.length_toList];rfl
 have hge:=grownCap_ge w t.size 0 5
 refine hK _ _ (h _ _ ⟨_,_,(by rw[e]),(by rw[e];exact hge),grownCap_le_maxLen w t.size 0 5 ht,?_⟩ rfl ((Below.refl _ _).drew.alloc (Nat.le_refl _) _) (by simp))
 refine⟨by rw[bv_length,Nat.mul_one],(fun h=>by cases h),fun ad had _=>?_⟩
 injection had with had
 subst had
 refine⟨rfl,(by simp),fun j u hu=>?_⟩
 have hj:j<t.data.toList.length:=by have:=(List.getElem?_eq_some_iff.1 hu).1;simpa [bv] using this
 rw[bv_get _ _ hj] at hu
 injection hu with hu
 subst hu
 show (w.drew.alloc (.cells (bytesRow t (grownCap w t.size 0 5)) 5 _)).cell? ⟨w.drew.heap.size,0+j,none⟩=_
 rw[World.cell?_alloc_mark]
 have hj':j<t.data.size:=by simpa using hj
 rw[Nat.zero_add,bytesRow_at t _ j hj']
 simp
theorem run_b2s (w:World) (v:Value) (B:Nat) (l:List UInt8) (hr:SB w B v l):(convert 56 9 v).run Tryz.prog w=.ok (.string ⟨l.toArray⟩) w:=by
 obtain⟨A,c,rfl,h1,h2,hr⟩:=hr
 cases A with
 | none =>
  have h0:=hr.2.1 rfl
  have:l=[]:=List.eq_nil_of_length_eq_zero h0
  subst this
  rw[run_convert_bytes_string w 56 9 5 none _ c Tryz.underlying56 Tryz.underlying5 Tryz.underlying9]
  simp[Conv.bytesToString]
  rfl
 | some ad =>
  refine run_convert_bytes_back (P:=Tryz.prog) w 56 9 5 ad c l Tryz.underlying56 Tryz.underlying5 Tryz.underlying9 (fun j hj=>?_)
  obtain⟨hs,hb,hc⟩:=hr.2.2 ad rfl (by omega)
  have ea:ad.add j=⟨ad.block,ad.off+j,none⟩:=by cases ad;simp only at hs;subst hs;rw[add_lit0]
  rw[ea]
  exact hc j _ (bv_get l j hj)
theorem wl_b2s (hgd:Region.wanted o (yielded ops a.tmps)=true) (x:Operand) (ho:o.op=.convert 56 9 x) (v:Value) (hx:a.eval x=v) (B:Nat) (l:List UInt8) (hr:SB w B v l)
  (h:wpList Tryz.prog ops Q rest (a.put o.dst (.string ⟨l.toArray⟩)) w):wpList Tryz.prog ops Q (o::rest) a w:=by
 refine wl_of hgd fun K hK=>?_
 unfold Oper.wp execOp
 simp only[ho,hx,Sem.run_bind,Sem.run_pure,Result.andThen_ok,run_b2s w v B l hr]
 exact hK _ _ h
end
end Go.Proofs.YtchjknbideoieaaGreatDoor
namespace Go.Proofs.YtchjknbideoieaaGreatDoor
set_option maxRecDepth 100000
set_option maxHeartbeats 8000000
open Go.RowKit
theorem num_rel {k:Nat} (l m:List UInt8) (h:127<k) (hk:k<18446744073709551616) (e:l++num k=m):(l++[UInt8.ofNat (k%128+128)])++num (k/128)=m:=by
 rw[←e,num_step k h hk];simp
theorem cNum_any (v:Value) (bs:List UInt8) (n:Nat) (w:World) (hv:SB w w.heap.size v bs) (hm:bs.length+10≤140737488355328) (hn:n<18446744073709551616) :
  Calls Tryz.prog 59 #[v,.int .u64 n] w fun e w'=>∃r,e=.returned r∧OB w' w.heap.size r (bs++num n)∧Below w.heap.size w w':=by
 have hnl:=num_length n
 go_enter Tryz.func59,Tryz.ntmps59
 go_wp2_with (at_builtin;refine wl_appB rfl (.tmp 6) (.tmp 7) rfl w.heap.size _ [] rfl (OB.lit0 w (Nat.le_refl _)) w.heap.size v bs rfl (hv.alloc (Nat.le_refl _) _) (by simp;omega) (by simp) ?_;intro v1 w1 hown1 _ _ hb1)
 have hb:Below w.heap.size w w1:=((Below.refl _ _).alloc (Nat.le_refl _) _).trans hb1
 clear hb1
 go_loopw [1,5] (fun x v wr=>∃k:Nat,x=.int .u64 k∧k<18446744073709551616∧∃l,OB wr w.heap.size v (bs++l)∧Hid (l++num k=num n)∧l.length≤10∧Below w.heap.size w wr) (fun x _ _=>(intOf x).toNat)
 case atStart=>exact⟨n,rfl,hn,[],by simpa using hown1,rfl,by simp,hb⟩
 case round =>
  obtain⟨k,rfl,hk,l,hown,hl,hll,hbr⟩:=hrel
  have hsz:=hbr.size
  have hkl:=num_length k
  have hlk:l.length+(num k).length=(num n).length:=by rw[←hl.out];simp
  by_cases hlt:127<k
  ·go_wp2_with (at_builtin;refine wl_app1 rfl (.tmp 13) (.tmp 17) rfl w.heap.size _ (bs++l) rfl hown _ (UInt8.ofNat (k%128+128)) (congrArg _ (byte_or128 k)) rfl rfl (by simp;omega) hsz ?_;intro v2 w2 hown2 _ _ hb2)
   go_roundw
   case rel=>exact⟨k/128,by go_num,by omega,l++[UInt8.ofNat (k%128+128)],by simpa using hown2,num_rel l _ hlt hk hl,by simp;omega,hbr.trans hb2⟩
   case measure=>simp[intOf];omega
  ·go_wp2_with (at_builtin;refine wl_app1 rfl (.tmp 19) (.tmp 22) rfl w.heap.size _ (bs++l) rfl hown _ (UInt8.ofNat k) (congrArg _ (by rw[←byte_of];omega)) rfl rfl (by simp;omega) hsz ?_;intro v2 w2 hown2 _ _ hb2)
   go_ret
   refine⟨_,rfl,?_,hbr.trans hb2⟩
   rw[←hl.out,num_small k (by omega),←List.append_assoc]
   exact hown2
theorem cStr_any (v:Value) (bs:List UInt8) (s:ByteArray) (w:World) (hv:SB w w.heap.size v bs) (hm:bs.length+10+s.size≤140737488355328) :
  Calls Tryz.prog 55 #[v,.string s] w fun e w'=>∃r,e=.returned r∧OB w' w.heap.size r (bs++num s.size++s.data.toList)∧Below w.heap.size w w':=by
 have hnl:=num_length s.size
 go_enter Tryz.func55,Tryz.ntmps55
 go_wp2_with (first
  | (go_at_call 59;refine (cNum_any v bs s.size w hv (by omega) (by omega)).mono ?_;rintro e w1 ⟨r,rfl,hown1,hb1⟩)
  | (at_builtin;refine wl_appS rfl (.tmp 9) (.tmp 10) rfl w.heap.size _ _ rfl hown1 s rfl (by simp;omega) hb1.size ?_;intro v2 w2 hown2 _ hb2))
 go_ret
 exact⟨_,rfl,hown2,hb1.trans hb2⟩
theorem cFix_any (v:Value) (bs:List UInt8) (n:Nat) (many:Int) (w:World) (hv:SB w w.heap.size v bs) (hm:bs.length+10≤140737488355328) (hn:n<18446744073709551616) (h1:-9223372036854775808≤many) (h2:many≤9223372036854775807) :
  Calls Tryz.prog 60 #[v,.int .u64 n,.int .i64 many] w fun e w'=>∃r,e=.returned r∧OB w' w.heap.size r (bs++fix n (fixN many))∧Below w.heap.size w w':=by
 have hnl:=fixN_le many
 have f1:8<many→8≤fixN many:=by unfold fixN;omega
 have f2:many≤8→many≤(fixN many:Int):=by unfold fixN;omega
 have f3:0≤many→(fixN many:Int)≤many:=by unfold fixN;omega
 have f4:many≤0→fixN many≤0:=by unfold fixN;omega
 go_enter Tryz.func60,Tryz.ntmps60
 go_wp2_with (at_builtin;refine wl_appB rfl (.tmp 8) (.tmp 9) rfl w.heap.size _ [] rfl (OB.lit0 w (Nat.le_refl _)) w.heap.size v bs rfl (hv.alloc (Nat.le_refl _) _) (by simp;omega) (by simp) ?_;intro v1 w1 hown1 _ _ hb1)
 all_goals
  have hb:Below w.heap.size w w1:=((Below.refl _ _).alloc (Nat.le_refl _) _).trans hb1
  clear hb1
  go_loopw [1,7,14] (fun x v i wr=>∃k j:Nat,x=.int .u64 k∧i=.int .i64 j∧k<18446744073709551616∧j≤fixN many∧∃l,OB wr w.heap.size v (bs++l)∧Hid (l++fix k (fixN many-j)=fix n (fixN many))∧l.length≤j∧Below w.heap.size w wr) (fun _ _ i _=>8-(intOf i).toNat)
  case atStart=>exact⟨n,0,rfl,rfl,hn,Nat.zero_le _,[],by simpa using hown1,rfl,by simp,hb⟩
  case round =>
   obtain⟨k,j,rfl,rfl,hk,hj,l,hown,hl,hll,hbr⟩:=hrel
   have hsz:=hbr.size
   by_cases hlt:j<fixN many
   ·go_wp2_with (at_builtin;refine wl_app1 rfl (.tmp 16) (.tmp 19) rfl w.heap.size _ (bs++l) rfl hown _ (UInt8.ofNat k) (congrArg _ (byte_of k)) rfl rfl (by simp;omega) hsz ?_;intro v2 w2 hown2 _ _ hb2)
    all_goals
     go_roundw
     case rel=>exact⟨k/256,j+1,by go_num,by go_num,by omega,by omega,l++[UInt8.ofNat k],by simpa using hown2,fix_rel l hl.out hlt,by simp;omega,hbr.trans hb2⟩
     case measure=>simp[intOf];omega
   ·go_wp2
    all_goals
     go_ret
     refine⟨_,rfl,?_,hbr⟩
     rw[←hl.out,show fixN many-j=0 from by omega,fix,List.append_nil]
     exact hown
end Go.Proofs.YtchjknbideoieaaGreatDoor
namespace Go.Proofs.YtchjknbideoieaaGreatDoor
set_option maxRecDepth 100000
set_option maxHeartbeats 8000000
open Go.RowKit
end Go.Proofs.YtchjknbideoieaaGreatDoor
