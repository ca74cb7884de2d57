/- What is proved here: what Build of package table comes to, at this seat's numbers. Conditions: few entries that may be; the table of constants. entries, cut into tables: what keys and Split of package split come to, at this seat's numbers. Conditions: entries in order; the lengths. -/
import Derived.Test.YtchjknbideoieaaGreatDoorK44
import Derived.Test.YtchjknbideoieaaGreatDoorK26
import Derived.Test.YtchjknbideoieaaGreatDoorK08
import Derived.Test.YtchjknbideoieaaGreatDoorK38
import Derived.Test.YtchjknbideoieaaGreatDoorK28
import Derived.Test.YtchjknbideoieaaGreatDoorK20
import Derived.Deep.DeepCutAuto
import Derived.Deep.CutBlock
import Derived.Test.YtchjknbideoieaaGreatDoorK16
import Derived.Test.YtchjknbideoieaaGreatDoorK19
import Derived.Test.YtchjknbideoieaaGreatDoorK05
import Derived.Test.YtchjknbideoieaaGreatDoorK21
import Derived.Lib.MinMax
import Derived.Shelf.Abstract
namespace Go.Proofs.YtchjknbideoieaaGreatDoor
set_option maxRecDepth 100000
set_option maxHeartbeats 8000000
open Go.RowKit Go.Proofs
theorem own_keep {w w':World} {base:Nat} {e:TypeId} {size:Nat} {v:Value} {n:Nat} {xs:List Value} (h:w.ownsRow base e size v n xs) (hk:∀g,v.ownBlock=some g→g<w.heap.size→w'.heap[g]? = w.heap[g]?):w'.ownsRow base e size v n xs:=by
 refine⟨h.1,?_⟩
 rcases h.2 with hn|⟨g,cap,cur,hv,hb,hg,rest⟩
 ·exact .inl hn
 ·have hlt:g<w.heap.size:=(Array.getElem?_eq_some_iff.1 hg).1
  exact .inr ⟨g,cap,cur,hv,hb,(hk g (by rw[hv];rfl) hlt).trans hg,rest⟩
theorem SE.cutR {w:World} {B:Nat} {A:Option Addr} {c:Nat} {E:List Ent} (h:SE w B (.slice A E.length c) E) {k:Nat} (hk:k≤E.length):SE w B (.slice (if c=k then A else A.map (·.add (k*4))) (E.length-k) (c-k)) (E.drop k):=by
 have h1:=Sl.cut h hk rfl
 unfold SE
 have h2:(E.drop k).flatMap entC=(E.flatMap entC).drop (k*4):=by
  have h3:((E.take k).flatMap entC).length=k*4:=by
   rw[flat_length entC 4 entC_length,List.length_take,Nat.min_eq_left hk]
  conv=>rhs;rw[←List.take_append_drop k E,List.flatMap_append]
  rw[List.drop_left' h3]
 rw[h2,List.length_drop]
 exact h1
theorem SE.takeR {w:World} {B:Nat} {A:Option Addr} {c:Nat} {E:List Ent} (h:SE w B (.slice A E.length c) E) {k:Nat} (hk:k≤E.length):SE w B (.slice A k c) (E.take k):=by
 have h1:=Sl.take h hk rfl
 unfold SE
 rw[List.length_take,Nat.min_eq_left hk]
 have h2:(E.take k).flatMap entC=(E.flatMap entC).take (k*4):=by
  have h3:((E.take k).flatMap entC).length=k*4:=by rw[flat_length entC 4 entC_length,List.length_take,Nat.min_eq_left hk]
  conv=>rhs;rw[←List.take_append_drop k E,List.flatMap_append]
  rw[List.take_left' h3]
 rw[h2]
 exact h1
theorem run_cutE (w:World) (A:Option Addr) (n c k:Nat) (kl:IntKind) (hk:k≤n):(Instr.sliceAt 22 (.slice A n c) (some (.int kl (k:Int))) none none).run Tryz.prog w=.ok (.slice (if c=k then A else A.map (·.add (k*4))) (n-k) (c-k)) w:=by
 rw[run_sliceAt_slice w 22 _ _ _ _ Tryz.underlying22,run_slice_l w 22 A n c Tryz.underlying22 kl k (by omega) (by omega)]
 simp[go_sem,sliced]
theorem run_takeE (w:World) (A:Option Addr) (n c k:Nat) (kl:IntKind) (hk:k≤c):(Instr.sliceAt 22 (.slice A n c) none (some (.int kl (k:Int))) none).run Tryz.prog w=.ok (.slice A k c) w:=by
 rw[run_sliceAt_slice w 22 _ _ _ _ Tryz.underlying22,run_slice_h w 22 A n c Tryz.underlying22 kl k (by omega) (by omega)]
 simp[go_sem,sliced]
def usersE (l:List Ent):List (List UInt8):=l.map (fun e=>e.user.data.toList)
structure BdAt (w wr:World) (base P:Nat) (K ad:List UInt8) (ev:Nat) (l:List Ent) (va rv uv:Value) (k:Nat) (R0:List (List UInt8 × List Ent)) (vo vl:Value):Prop where
 rows:OB wr base rv (idxB leafB (prts (sealP K ad) ev R0))
 users:OT wr base uv (usersE (l.take k))
 wrt:WrAt wr base P K ad va vo vl (ad++bodyB (prts (sealP K ad) ev R0)) ((prts (sealP K ad) ev R0).map (fun p=>leafD p.bytes))
 ru:Ap rv uv
 uP:uv.ownBlock≠some P
 ua:Ap uv va
 uo:Ap uv vo
 ul:Ap uv vl
 rP:rv.ownBlock≠some P
 ro:Ap rv vo
 rl:Ap rv vl
 ra:Ap rv va
theorem ba_eta (b:ByteArray):(⟨b.data.toList.toArray⟩:ByteArray)=b:=by cases b;simp
theorem SE.rd {w:World} {B:Nat} {A:Option Addr} {n c:Nat} {l:List Ent} (h:SE w B (.slice A n c) l):n=l.length∧Rd w B 4 A l.length (l.flatMap entC):=by
 obtain⟨A'',c'',e,_,_,hr⟩:=h
 injection e with e1 e2 e3
 subst e1
 exact⟨e2,hr⟩
theorem OT.lt {w:World} {base:Nat} {v:Value} {l:List (List UInt8)} (h:OT w base v l):∀k,v.ownBlock=some k→base≤k∧k<w.heap.size:=World.ownsRow.lt h
theorem WrAt.keepG {w w':World} {base P:Nat} {K ad out:List UInt8} {va vo vl:Value} {lv:List Dg} {row:Option Nat} (h:WrAt w base P K ad va vo vl out lv) (hg:w.grownBy w' row) (hP:some P≠row) (h1:va.ownBlock=none∨va.ownBlock≠row) (h2:vo.ownBlock=none∨vo.ownBlock≠row) (h3:vl.ownBlock=none∨vl.ownBlock≠row):WrAt w' base P K ad va vo vl out lv :=
 ⟨(hg.block P h.lt hP).trans h.row,h.oa.grown hg h1,h.oo.grown hg h2,h.od.grown hg h3,h.hP,h.pa,h.po,h.pl,h.ao,h.al,h.ol⟩
theorem OT.fr {w w':World} {base P:Nat} {vo vl v:Value} {l:List (List UInt8)} (h:OT w base v l) (hf:WrFr w w' P vo vl) (hP:v.ownBlock≠some P) (h1:Ap v vo) (h2:Ap v vl):OT w' base v l :=
 own_keep h fun g e hg=>hf g hg (fun e2=>hP (by rw[e,e2])) (fun e2=>by rcases h1 with h1|h1 <;> rw[e] at h1 <;> simp_all) (fun e2=>by rcases h2 with h2|h2 <;> rw[e] at h2 <;> simp_all)
theorem prts_bound {sp:Nat→List UInt8→List UInt8} {ev:Nat} {R:List (List UInt8 × List Ent)} {p:Prt} (h:p∈prts sp ev R):∃r∈R,p.bound=r.1:=by
 unfold prts at h
 obtain⟨i,hi,rfl⟩:=List.mem_mapIdx.1 h
 exact⟨R[i],List.getElem_mem hi,rfl⟩
theorem OB.frNew {w10 w11:World} {n0 b1 c1 P n:Nat} {vo vl:Value} {s1:List UInt8} (h:OB w10 n0 (.slice (some ⟨b1,0,none⟩) n c1) s1) (hf:WrFr w10 w11 P vo vl) (hne:b1≠P∧vo.ownBlock≠some b1∧vl.ownBlock≠some b1):OB w11 n0 (.slice (some ⟨b1,0,none⟩) n c1) s1 :=
 h.fr hf (by intro e;injection e with e;exact hne.1 e) (.inr (fun e=>hne.2.1 e.symm)) (.inr (fun e=>hne.2.2 e.symm))
theorem BdAt.putRow {w wr w10 w11 w12:World} {base P n0 b1 c1 k:Nat} {K ad:List UInt8} {ev:Nat} {l:List Ent} {va rv uv vo vl vo' vl' r2:Value} {R0:List (List UInt8 × List Ent)} {s1 out':List UInt8} {lv':List Dg}
  (h:BdAt w wr base P K ad ev l va rv uv k R0 vo vl) (hb10:Below wr.heap.size wr w10) (hr:OB w10 n0 (.slice (some ⟨b1,0,none⟩) s1.length c1) s1) (hn0:wr.heap.size≤n0)
  (hW:WrAt w11 base P K ad va vo' vl' out' lv') (hfo:FS w10.heap.size vo vo') (hfl:FS w10.heap.size vl vl') (hfr:WrFr w10 w11 P vo vl) (h1011:w10.heap.size≤w11.heap.size)
  (hg:w11.grownBy w12 (some b1)) (hs:r2.ownBlock=some b1∨r2.ownBlock=some w11.heap.size) :
  OT w12 base uv (usersE (l.take k))∧WrAt w12 base P K ad va vo' vl' out' lv'∧Ap r2 uv∧Ap uv vo'∧Ap uv vl'∧r2.ownBlock≠some P∧Ap r2 vo'∧Ap r2 vl'∧Ap r2 va:=by
 have hb1:=hr.lt b1 rfl
 have hz:=hb10.size
 have hu:=h.users.lt
 have ha:=h.wrt.oa.lt
 have ho:=h.wrt.oo.lt
 have hl:=h.wrt.od.lt
 have hPl:=h.wrt.lt
 have u10:=own_below h.users hb10 (Nat.le_refl _)
 have u11:OT w11 base uv (usersE (l.take k)):=OT.fr u10 hfr h.uP h.uo h.ul
 have nb:∀{v v':Value},(∀j,v.ownBlock=some j→j<wr.heap.size)→FS w10.heap.size v v'→v'.ownBlock=none∨v'.ownBlock≠some b1:=by
  intro v v' hv hf
  rcases hf with hf|⟨j,e,hj⟩
  ·rcases hv0:v.ownBlock with _|j
   ·exact .inl (hf.trans hv0)
   ·exact .inr (by rw[hf,hv0];intro e;injection e with e;have:=hv j hv0;omega)
  ·exact .inr (by rw[e];intro e;injection e with e;omega)
 have ub:uv.ownBlock=none∨uv.ownBlock≠some b1:=nb (fun j hj=>(hu j hj).2) (FS.refl _ _)
 refine⟨World.ownsRow.kept u11 hg ub,hW.keepG hg (by intro e;injection e with e;omega) (nb (fun j hj=>(ha j hj).2) (FS.refl _ _)) (nb (fun j hj=>(ho j hj).2) hfo) (nb (fun j hj=>(hl j hj).2) hfl),.inr fun e=>?_,h.uo.right (fun j hj=>by have:=hu j hj;omega) hfo,h.ul.right (fun j hj=>by have:=hu j hj;omega) hfl,fun e=>?_,.inr fun e=>?_,.inr fun e=>?_,.inr fun e=>?_⟩
 ·rcases hs with hs|hs
  ·rw[hs] at e
   have:=(hu b1 e.symm).2
   omega
  ·rw[hs] at e
   have:=(hu _ e.symm).2
   omega
 ·rcases hs with hs|hs
  ·rw[hs] at e
   injection e with e
   omega
  ·rw[hs] at e
   injection e with e
   omega
 ·rcases hs with hs|hs
  ·rw[hs] at e
   rcases nb (fun j hj=>(ho j hj).2) hfo with h1|h1
   ·rw[h1] at e
    cases e
   ·exact h1 e.symm
  ·rw[hs] at e
   have:=(hW.oo.lt _ e.symm).2
   omega
 ·rcases hs with hs|hs
  ·rw[hs] at e
   rcases nb (fun j hj=>(hl j hj).2) hfl with h1|h1
   ·rw[h1] at e
    cases e
   ·exact h1 e.symm
  ·rw[hs] at e
   have:=(hW.od.lt _ e.symm).2
   omega
 ·rcases hs with hs|hs
  ·rw[hs] at e
   rcases nb (fun j hj=>(ha j hj).2) (FS.refl _ _) with h1|h1
   ·rw[h1] at e
    cases e
   ·exact h1 e.symm
  ·rw[hs] at e
   have:=(hW.oa.lt _ e.symm).2
   omega
theorem BdAt.user {w wr w':World} {base P k k':Nat} {K ad:List UInt8} {ev:Nat} {l:List Ent} {va rv uv uv' vo vl:Value} {R0:List (List UInt8 × List Ent)} (h:BdAt w wr base P K ad ev l va rv uv k R0 vo vl)
  (ho:OT w' base uv' (usersE (l.take k'))) (hg:wr.grownBy w' uv.ownBlock) (hfs:FS wr.heap.size uv uv'):BdAt w w' base P K ad ev l va rv uv' k' R0 vo vl :=
 ⟨h.rows.grown hg h.ru,ho,h.wrt.keepG hg (fun e=>h.uP e.symm) h.ua.symm h.uo.symm h.ul.symm,h.ru.right (fun j hj=>(h.rows.lt j hj).2) hfs,hfs.ne h.uP h.wrt.lt,h.ua.left (fun j hj=>(h.wrt.oa.lt j hj).2) hfs,h.uo.left (fun j hj=>(h.wrt.oo.lt j hj).2) hfs,h.ul.left (fun j hj=>(h.wrt.od.lt j hj).2) hfs,h.rP,h.ro,h.rl,h.ra⟩
theorem encS_one (l:List (List UInt8)):∀u∈l.map encStr,u.oneCell'=true:=by
 intro u hu
 obtain⟨x,_,rfl⟩:=List.mem_map.1 hu
 rfl
theorem wl_appT {ops:Array Oper} {rest:List Oper} {o:Oper} {a:Act} {Q:Exit→Act→World→Prop} {w:World} (hgd:Region.wanted o (yielded ops a.tmps)=true) (s x:Operand)
  (ho:o.op=.call { callee:=.builtin .append,args:=#[s,x],argTypes:=#[116,116] })
  (base:Nat) (v:Value) (l:List (List UInt8)) (hs:a.eval s=v) (hown:OT w base v l)
  (B:Nat) (u:Value) (m:List (List UInt8)) (hx:a.eval x=u) (hr:ST w B u m) (hlen:(l.length+m.length)*16≤140737488355328) (hbase:base≤w.heap.size)
  (h:∀v' w',OT w' base v' (l++m)→w.grownBy w' v.ownBlock→(v'.ownBlock=v.ownBlock∨v'.ownBlock=some w.heap.size)→Below base w w'→wpList Tryz.prog ops Q rest (a.put o.dst v') w'):wpList Tryz.prog ops Q (o::rest) a w:=by
 obtain⟨i0,hi0,hz0,hz1,hz2⟩:=info_parts infoS
 refine wl_of hgd fun K hK=>wp_app w s x 116 ho base 9 i0 _ 1 16 Tryz.underlying116 hi0 hz0 hz1 hz2 rfl (by omega) v l.length _ hs hown B m.length u _ hx hr (encS_one m) (by simp only[maxLen];omega) (Fits.of _ _ _ hlen) hbase ?_
 intro v' w' h1 h2 h3 h4
 refine hK _ _ (h v' w' ?_ h2 h3 h4)
 unfold OT
 rw[List.length_append,List.map_append]
 exact h1
theorem results_tct {P:Program} {fn:Func} {u p v:Tmp} {ty:TypeId} (h:fn.results=#[.tmp u,.cell p ty,.tmp v]) (tmps:Array Value) (w:World) (g:Nat) (t:TypeId) (cs:Array Value) (fr:Nat × Nat) (d:TypeDesc)
  (hp:tmps.getD p undef=.pointer (some ⟨g,0,none⟩)) (hg:w.heap[g]? = some (.cells cs t fr))
  (hu:P.underlying ty=some d) (hd:(match d with | .struct _ | .array _ _=>true|_=>false)=true) (hi:(P.info? ty).map (·.size)=some cs.size) :
  (results fn tmps).run P w=.ok (.tuple #[tmps.getD u undef,.agg cs,tmps.getD v undef]) w:=by
 have hp':tmps[p]?.getD undef=.pointer (some ⟨g,0,none⟩):=by simpa using hp
 simp[results,h,hp',asAddr,run_loadVar_row w g t ty cs fr d hg hu hd hi]
def tabPs (K ad:List UInt8) (ev:Nat) (blk:Int) (l:List Ent):List Prt:=prts (sealP K ad) ev (rowsF blk l.length l)
def tabF (K ad filt:List UInt8):List UInt8:=sealP K ad 1 filt
def tabI (K ad:List UInt8) (ev:Nat) (blk:Int) (l:List Ent) (filt:List UInt8):List UInt8:=sealP K ad 0 (indexB leafB (tabPs K ad ev blk l) (tabF K ad filt))
def tabB (K ad:List UInt8) (ev:Nat) (blk:Int) (l:List Ent) (filt:List UInt8):List UInt8:=tableB ad (tabPs K ad ev blk l) (tabF K ad filt) (tabI K ad ev blk l filt)
def tabL (K ad:List UInt8) (ev:Nat) (blk:Int) (l:List Ent) (filt:List UInt8):List Dg:=(tabPs K ad ev blk l).map (fun p=>leafD p.bytes)++[leafD (tabF K ad filt),leafD (tabI K ad ev blk l filt)]
def FiltOk (filt:List UInt8) (l:List Ent):Prop:=∃L pb,filt=L++[pb]∧0<L.length∧L.length≤1048576∧1≤pb.toNat∧pb.toNat≤30∧∀e∈l,mayKey pb.toNat L e.user.data.toList=true
def metaC (h:Hd) (size count:Nat) (mn mx:ByteArray) (root:List UInt8):List Value:=[.int .u8 (h.lv:Int),.int .u64 (h.g:Int),.int .u64 (h.e:Int),.int .u64 (h.n:Int),.int .i64 (size:Int),.int .i64 (count:Int),.string mn,.string mx]++bv root
def metaV (h:Hd) (size count:Nat) (mn mx:ByteArray) (root:List UInt8):Value:=.agg (metaC h size count mn mx root).toArray
theorem kBuild_tab (root:List UInt8) (hroot:root.length=32) (h:Hd) (ok:h.ok) (hk2:h.k=2) (hrh:rightH h=true) (l:List Ent) (blk ev bits:Nat) (hblk:1≤blk∧blk≤1048576) (hev:1≤ev∧ev≤1024) (hbits:1≤bits∧bits≤64)
  (cr:Array Value) (hcr:dgA root=cr) (v:Value) (w:World) (hv:SE w w.heap.size v l) (hL:rightL l=true) (hne:0<l.length) (hlen:l.length≤1000) (htx:textE l≤10000) (hk:KTab w 0) (h1:0<w.heap.size) :
  Calls Tryz.prog 17 #[.agg cr,hdV h,v,.agg #[.int .i64 (blk:Int),.int .i64 (ev:Int),.int .i64 (bits:Int)]] w fun e w'=>∃r filt,e=.returned (.tuple #[r,metaV h (tabB (keyOfUse root (layH h)) (layH h) ev blk l filt).length l.length (l.getD 0 ent0).user (l.getD (l.length-1) ent0).user (rootR jnD zD (tabL (keyOfUse root (layH h)) (layH h) ev blk l filt)).1,.int .i64 0])∧FiltOk filt l∧OB w' w.heap.size r (tabB (keyOfUse root (layH h)) (layH h) ev blk l filt)∧Below w.heap.size w w':=by
 obtain⟨hR,hAll⟩:=rightL_all hL
 obtain⟨A,c,rfl,hlc,hcm,hrd⟩:=id hv
 have hcm':c≤9223372036854775807:=by unfold maxLen at hcm;omega
 have hzz:∀e∈l,e.user.size≤9223372036854775807∧e.value.size≤9223372036854775807:=fun e he=>by have:=rightE_le (hAll e he);omega
 have hall:l.all rightE=true:=List.all_eq_true.2 hAll
 have hk2':(h.k:Int)=2:=by omega
 have HRight:Hid (∀W,Calls Tryz.prog 48 #[.agg #[.int .u8 2,.int .u8 (h.lv:Int),.int .u64 (h.g:Int),.int .u64 (h.e:Int),.int .u64 (h.n:Int)]] W fun e w'=>e=.returned (.bool true)∧Below W.heap.size W w'):=Lib.hid (fun W=>by have:=kRight_any h W ok;rw[hrh] at this;rw[←hk2'];exact this)
 have HCont:Hid (∀W,Below w.heap.size w W→Calls Tryz.prog 49 #[.slice A l.length c,.func (.func 47) #[] #[]] W fun en w'=>en=.returned (.bool false)∧Below W.heap.size W w'):=Lib.hid (fun W hW=>by
  have:=tContains_any _ l W (hv.on hW) (by omega) hzz
  rw[hall] at this
  exact this)
 have HRise:Hid (∀W,Below w.heap.size w W→Calls Tryz.prog 7 #[.slice A l.length c] W fun en w'=>en=.returned (.bool true)∧Below W.heap.size W w'):=Lib.hid (fun W hW=>by
  have:=iRises_any _ l W (hv.on hW) (by omega)
  rw[hR] at this
  exact this)
 have HALL:=Lib.hid (And.intro hroot (And.intro hcr (And.intro hR (And.intro hAll (And.intro hL hcm)))))
 have HV:=Lib.hid hv
 have HRD:=Lib.hid hrd
 have hKl:(keyOfUse root (layH h)).length=64:=keyOfUse_length _ _
 have HKey:Hid (∀W,Below w.heap.size w W→Calls Tryz.prog 50 #[.agg cr,.agg #[.int .u8 2,.int .u8 (h.lv:Int),.int .u64 (h.g:Int),.int .u64 (h.e:Int),.int .u64 (h.n:Int)]] W fun e w'=>e=.returned (.agg (bv (keyOfUse root (layH h))).toArray)∧Below W.heap.size W w'):=Lib.hid (fun W hW=>by
  have:=kKeyOf_any root hroot h ok cr _ hcr rfl W (hk.on hW h1) (by have:=hW.size;omega)
  rw[←hk2']
  exact this)
 have HLay:Hid (∀W,Calls Tryz.prog 51 #[.agg #[.int .u8 2,.int .u8 (h.lv:Int),.int .u64 (h.g:Int),.int .u64 (h.e:Int),.int .u64 (h.n:Int)]] W fun e w'=>∃r,e=.returned r∧OB w' W.heap.size r (layH h)∧Below W.heap.size W w'):=Lib.hid (fun W=>by rw[←hk2'];exact kLay_any h W ok)
 obtain⟨hb1,hb2⟩:=hblk
 obtain⟨he1,he2⟩:=hev
 obtain⟨hbi1,hbi2⟩:=hbits
 obtain⟨K,hK⟩:∃K,K=keyOfUse root (layH h):=⟨_,rfl⟩
 rw[←hK] at hKl HKey ⊢
 obtain⟨ad,had⟩:∃ad,ad=layH h:=⟨_,rfl⟩
 rw[←had] at HLay ⊢
 have HADL:Hid (ad.length=30):=Lib.hid (by rw[had];exact layH_len h)
 have hadp:0<ad.length:=by rw[HADL.out];omega
 have hadm:ad.length≤1000:=by rw[HADL.out];omega
 have hcs:cr.size=32:=by rw[←hcr,dgA_size,hroot]
 have hKb:(bv K).length=64:=by rw[bv_length,hKl]
 clear hroot hcr hR hAll hcm hzz hall hrh hL hrd hv hK had
 go_enter Tryz.func17,Tryz.ntmps17
 go_upto_region 2 with fail
 generalize hWA:World.alloc _ _=wA
 have rM:wA.heap[w.heap.size+1+1+1]? = some (.cells (metaC ⟨0,0,0,0,0⟩ 0 0 ⟨#[]⟩ ⟨#[]⟩ (List.replicate 32 0)).toArray 55 (0,0)):=by
  rw[←hWA]
  have h:=heap_alloc_new (((w.alloc (.cells cr 53)).alloc (.cells #[.int .u8 2,.int .u8 (h.lv:Int),.int .u64 (h.g:Int),.int .u64 (h.e:Int),.int .u64 (h.n:Int)] 65)).alloc (.cells #[.int .i64 (blk:Int),.int .i64 (ev:Int),.int .i64 (bits:Int)] 35)) (.cells (metaC ⟨0,0,0,0,0⟩ 0 0 ⟨#[]⟩ ⟨#[]⟩ (List.replicate 32 0)).toArray 55 (0,0))
  simp only[World.size_alloc] at h
  exact h
 have rS:wA.heap[w.heap.size+1+1]? = some (.cells #[.int .i64 (blk:Int),.int .i64 (ev:Int),.int .i64 (bits:Int)] 35 (0,0)):=by
  rw[←hWA]
  have h:=heap_alloc_new ((w.alloc (.cells cr 53)).alloc (.cells #[.int .u8 2,.int .u8 (h.lv:Int),.int .u64 (h.g:Int),.int .u64 (h.e:Int),.int .u64 (h.n:Int)] 65)) (.cells #[.int .i64 (blk:Int),.int .i64 (ev:Int),.int .i64 (bits:Int)] 35)
  simp only[World.size_alloc] at h
  exact (heap_alloc_old _ _ (by simp)).trans h
 have rH:wA.heap[w.heap.size+1]? = some (.cells #[.int .u8 2,.int .u8 (h.lv:Int),.int .u64 (h.g:Int),.int .u64 (h.e:Int),.int .u64 (h.n:Int)] 65 (0,0)):=by
  rw[←hWA]
  exact (heap_alloc_old _ _ (by simp)).trans ((heap_alloc_old _ _ (by simp)).trans (heap_alloc2_new w _ _))
 have rR:wA.heap[w.heap.size]? = some (rowO cr):=by
  rw[←hWA]
  exact (heap_alloc_old _ _ (by simp;omega)).trans ((heap_alloc_old _ _ (by simp;omega)).trans (heap_alloc2_old w _ _))
 have bA:Below w.heap.size w wA:=by rw[←hWA];exact balloc (balloc (balloc (balloc (bself w) _) _) _) _
 have zA:wA.heap.size=w.heap.size+1+1+1+1:=by rw[←hWA];simp
 clear hWA
 have HKS:Hid (∀W,Below wA.heap.size wA W→W.heap[w.heap.size]? = some (rowO cr)∧(W.cell? ⟨w.heap.size+1,0,none⟩=some (.int .u8 2)∧W.cell? ⟨w.heap.size+1,1,none⟩=some (.int .u8 (h.lv:Int))∧W.cell? ⟨w.heap.size+1,2,none⟩=some (.int .u64 (h.g:Int))∧W.cell? ⟨w.heap.size+1,3,none⟩=some (.int .u64 (h.e:Int))∧W.cell? ⟨w.heap.size+1,4,none⟩=some (.int .u64 (h.n:Int)))∧(W.cell? ⟨w.heap.size+1+1,0,none⟩=some (.int .i64 (blk:Int))∧W.cell? ⟨w.heap.size+1+1,1,none⟩=some (.int .i64 (ev:Int))∧W.cell? ⟨w.heap.size+1+1,2,none⟩=some (.int .i64 (bits:Int)))):=Lib.hid (fun W hb=>by
  have e1:=(hb.block (w.heap.size+1) (by omega)).trans rH
  have e2:=(hb.block (w.heap.size+1+1) (by omega)).trans rS
  exact⟨(hb.block _ (by omega)).trans rR,⟨cell_of_row _ _ 0 _ _ _ e1,cell_of_row _ _ 1 _ _ _ e1,cell_of_row _ _ 2 _ _ _ e1,cell_of_row _ _ 3 _ _ _ e1,cell_of_row _ _ 4 _ _ _ e1⟩,⟨cell_of_row _ _ 0 _ _ _ e2,cell_of_row _ _ 1 _ _ _ e2,cell_of_row _ _ 2 _ _ _ e2⟩⟩)
 have HB0:Hid (∀W,Below wA.heap.size wA W→Below w.heap.size w W):=Lib.hid (fun W hb=>bA.trans (hb.mono (by omega)))
 have HM0:=Lib.hid rM
 clear rS rH rR rM
 obtain⟨_,⟨i0,i1,i2,i3,i4⟩,⟨s0,s1,s2⟩⟩:=HKS.out wA (bself wA)
 have d0:((l.length:Int)==0)=false:=by rw[beq_eq_false_iff_ne];omega
 have d1:decide ((blk:Int)<1)=false:=by simp;omega
 have d2:decide ((1048576:Int)<(blk:Int))=false:=by simp;omega
 have d3:decide ((ev:Int)<1)=false:=by simp;omega
 have d4:decide ((1024:Int)<(ev:Int))=false:=by simp;omega
 go_upto_region 4 with (first|(go_at_call 48;refine (HRight.out _).mono ?_;rintro _ w1 ⟨rfl,hb1⟩;have b1:=bstep (bself wA) hb1;obtain⟨_,_,⟨t0,t1,t2⟩⟩:=HKS.out w1 b1)|(go_at_call 49;refine (HCont.out _ (HB0.out _ b1)).mono ?_;rintro _ w2 ⟨rfl,hb2⟩;have b2:=bstep b1 hb2)|(go_at_call 7;refine (HRise.out _ (HB0.out _ b2)).mono ?_;rintro _ w3 ⟨rfl,hb3⟩;have b3:=bstep b2 hb3))
 clear i0 i1 i2 i3 i4 s0 s1 s2 t0 t1 t2 d0 d1 d2 d3 d4 HRight HCont HRise b1 b2 hb1 hb2 hb3
 obtain⟨hR3,hH3,_⟩:=HKS.out _ (bdrew b3)
 refine wp_region_noPanic ?_
 refine wp_region_held_drew (S:=fun w'=>w'.heap[w.heap.size]? = some (rowO cr)∧(w'.cell? ⟨w.heap.size+1,0,none⟩=some (.int .u8 2)∧w'.cell? ⟨w.heap.size+1,1,none⟩=some (.int .u8 (h.lv:Int))∧w'.cell? ⟨w.heap.size+1,2,none⟩=some (.int .u64 (h.g:Int))∧w'.cell? ⟨w.heap.size+1,3,none⟩=some (.int .u64 (h.e:Int))∧w'.cell? ⟨w.heap.size+1,4,none⟩=some (.int .u64 (h.n:Int)))) (by kernel_rfl) ⟨hR3,hH3⟩ (fun hHeld=>?_)
 have b3d:=bdrew b3
 refine reg_take 0 (v:=.agg cr) (by rfl) (by kernel_rfl) (by kernel_rfl) (by kernel_rfl) (fun _ _ _ h=>h) (by rfl) ?_ (by assumption) ?_
 ·(intro wq hSq;exact exec_loadDg (.tmp 4) rfl _ rfl cr hSq.1 hcs)
 try simp only[Act.put,q1,q2,q3]
 refine rtk 1 ?_
 refine rtk 3 ?_
 refine rtk 5 ?_
 refine ro 2 (fun K hK=>?_)
 (go_simp;go_at_call 50;refine (HKey.out _ (HB0.out _ b3d)).mono ?_;rintro _ w4 ⟨rfl,hb4⟩;have b4:=bstep b3d hb4;go_wp2_with fail)
 refine hK.out _ _ ?_ (fun hHeld=>?_)
 ·exact⟨(HKS.out _ b4).1,(HKS.out _ b4).2.1⟩
 clear hK K
 try simp only[Act.put,q1,q2,q3]
 refine ro 4 (fun K hK=>?_)
 (go_simp;go_at_call 51;refine (HLay.out _).mono ?_;rintro _ w5 ⟨va,rfl,hoa,hb5⟩;have b5:=bstep b4 hb5;go_wp2_with fail)
 refine hK.out _ _ ?_ (fun hHeld=>?_)
 ·exact⟨(HKS.out _ b5).1,(HKS.out _ b5).2.1⟩
 clear hK K
 try simp only[Act.put,q1,q2,q3]
 refine ro 6 (fun K hK=>?_)
 (go_simp;go_at_call 51;refine (HLay.out _).mono ?_;rintro _ w6 ⟨vo,rfl,hoo,hb6⟩;have b6:=bstep b5 hb6;go_wp2_with fail)
 refine hK.out _ _ ?_ (fun hHeld=>?_)
 ·exact⟨(HKS.out _ b6).1,(HKS.out _ b6).2.1⟩
 clear hK K
 try simp only[Act.put,q1,q2,q3]
 obtain⟨ga,ca,rfl⟩:=hoa.form0 (by omega)
 obtain⟨go,co,rfl⟩:=hoo.form0 (by omega)
 refine reg_take 7 (v:=.agg (bv K++[.slice (some ⟨ga,0,none⟩) ad.length ca,.slice (some ⟨go,0,none⟩) ad.length co,nilW]).toArray) (by rfl) (by kernel_rfl) (by kernel_rfl) (by kernel_rfl) (fun _ _ _ h=>h) (by rfl) ?_ (by assumption) ?_
 ·(intro wq hSq;exact exec_buildWr (.tmp 72) (.tmp 74) (.tmp 76) rfl (bv K) hKb _ _ _ _ _ _ rfl rfl rfl)
 try simp only[Act.put,q1,q2,q3]
 refine ro 8 (fun K hK=>?_)
 (go_simp)
 refine hK.out _ _ ?_ (fun hHeld=>?_)
 ·exact⟨(HKS.out _ (balloc b6 _)).1,(HKS.out _ (balloc b6 _)).2.1⟩
 clear hK K
 try simp only[Act.put,q1,q2,q3]
 refine rtk 9 ?_
 refine rdn ?_
 generalize hW7:World.alloc _ _=w7
 have b7:Below wA.heap.size wA w7:=by rw[←hW7];exact balloc b6 _
 have z5:=b5.size
 have z6:=b6.size
 have z4:=b4.size
 have z56:=hb6.size
 have hw7:WrAt w7 wA.heap.size w6.heap.size K ad (.slice (some ⟨ga,0,none⟩) ad.length ca) (.slice (some ⟨go,0,none⟩) ad.length co) nilW ad []:=by
  have h6a:=(hoa.below hb6 (Nat.le_refl _)).rebase (base':=wA.heap.size) (by omega)
  have la:=(hoa.lt _ rfl).2
  have lo:=hoo.lt _ rfl
  refine⟨by rw[←hW7];exact heap_alloc_new w6 _,by rw[←hW7];exact h6a.alloc _,by rw[←hW7];exact (hoo.rebase (by omega)).alloc _,OD.nil_ _ _,by omega,?_,?_,?_,?_,?_,?_⟩
  ·intro e;injection e with e;omega
  ·intro e;injection e with e;omega
  ·intro e;cases e
  ·exact .inr (by intro e;injection e with e;omega)
  ·exact .inr (by intro e;cases e)
  ·exact .inr (by intro e;cases e)
 have hv7:=HV.out.on (HB0.out _ b7)
 have hbw7:=HB0.out _ b7
 clear hW7 hoa hoo hR3 hH3 b3d b4 b5 b6 hb4 hb5 hb6 z4 z5 z56 HKey HLay hHeld b3
 generalize hVA:Value.slice (some ⟨ga,0,none⟩) ad.length ca=va at hw7
 generalize hVO:Value.slice (some ⟨go,0,none⟩) ad.length co=vo0 at hw7
 generalize hPP:w6.heap.size=P at hw7 z6 ⊢
 have HIN:Hid (BdAt w w7 wA.heap.size P K ad ev l va nilW nilW 0 [] vo0 nilW):=Lib.hid ⟨OB.nil_ _ _,OT.nil_ _ _,by simpa [prts,bodyB] using hw7,.inl rfl,(fun e=>by cases e),.inl rfl,.inl rfl,.inl rfl,(fun e=>by cases e),.inl rfl,.inl rfl,.inl rfl⟩
 clear hw7 hPP
 have HHV:=Lib.hid (And.intro hVA hVO)
 have HRB:Hid (∀r∈rowsF (blk:Int) l.length l,r.1.length≤1024):=Lib.hid (fun r hr=>(rowsF_right _ _ l HALL.out.2.2.2.2.1 r hr).2.2.2)
 clear hVA hVO hv7 hbw7
 go_wp2_with fail
 go_loopw [13,14,15,16] (fun rv nv uv sv wr=>∃(k:Nat) (D:List Ent) (R0:List (List UInt8 × List Ent)) (vo vl:Value) (A':Option Addr) (ck:Nat),nv=.int .i64 (R0.length:Int)∧sv=.slice A' D.length ck∧D.length≤ck∧ck≤9223372036854775807∧k+D.length=l.length∧R0.length≤k∧Hid (D=l.drop k∧rowsF blk l.length l=R0++rowsF blk D.length D∧R0.flatMap (·.2)=l.take k)∧Hid (SE w w.heap.size (.slice A' D.length ck) D)∧Hid (BdAt w wr wA.heap.size P K ad ev l va rv uv k R0 vo vl)∧Below wA.heap.size wA wr) (fun _ _ _ sv _=>match sv with | .slice _ n _=>n|_=>0)
 case atStart=>exact⟨0,l,[],vo0,nilW,A,c,rfl,rfl,hlc,hcm',by omega,by simp,Lib.hid ⟨by simp,by simp,by simp⟩,Lib.hid HV.out,HIN,b7⟩
 case round =>
  obtain⟨k,D,R0,vo,vl,A',ck,rfl,rfl,hDc,hck,hkD,hR0k,HD,HSE,HBD,hbr⟩:=hrel
  by_cases hD0:0<D.length
  ·obtain⟨_,_,⟨s0,s1,s2⟩⟩:=HKS.out _ hbr
   have hbw:=HB0.out _ hbr
   have hzr:=hbr.size
   have hDl:D≠[]:=List.length_pos_iff.1 hD0
   obtain⟨m,hm⟩:∃m,m=cutF (blk:Int) 0 D:=⟨_,rfl⟩
   have hm1:1≤m:=by rw[hm];exact cutF_pos _ _ _ hDl
   have hmD:m≤D.length:=by rw[hm];exact cutF_le _ _ _
   have hDall:∀e∈D,e∈l:=fun e he=>by rw[HD.out.1] at he;exact List.mem_of_mem_drop he
   have hDz:∀e∈D,e.user.size≤1024∧e.value.size≤65536:=fun e he=>rightE_le (HALL.out.2.2.2.1 e (hDall e he))
   have HCut:Hid (Calls Tryz.prog 52 #[.slice A' D.length ck,.int .i64 (blk:Int)] _ fun e w'=>e=.returned (.int .i64 (m:Int))∧Below _ _ w'):=Lib.hid (by
    have:=kCut_any _ D (blk:Int) _ (HSE.out.on hbw) (by omega) (fun e he=>by have:=hDz e he;omega) (by omega) (by omega)
    rw[←hm] at this
    exact this)
   obtain⟨part,hpart⟩:∃part,part=D.take m:=⟨_,rfl⟩
   obtain⟨rest,hrest⟩:∃rest,rest=D.drop m:=⟨_,rfl⟩
   have hpl:part.length=m:=by rw[hpart,List.length_take];omega
   have hrl:m+rest.length=D.length:=by rw[hrest,List.length_drop];omega
   have hDr:rightL D=true:=by rw[HD.out.1];exact right_drop HALL.out.2.2.2.2.1 k
   have hpr:rightL part=true:=by rw[hpart];exact right_take hDr m
   have hptx:textE part≤textE l:=by
    have h2:=textE_take D m
    have h3:=textE_drop l k
    rw[HD.out.1] at h2
    rw[hpart,HD.out.1]
    omega
   obtain⟨A2,hA2⟩:∃A2,A2=(if ck=m then A' else A'.map (·.add (m*4))):=⟨_,rfl⟩
   have HS1:Hid (SE w w.heap.size (.slice A' m ck) part):=Lib.hid (by rw[hpart];exact SE.takeR HSE.out hmD)
   have HS2:Hid (SE w w.heap.size (.slice A2 rest.length (ck-m)) rest):=Lib.hid (by
    have:=SE.cutR HSE.out hmD
    rw[←hA2,←hrest,show D.length-m=rest.length by omega] at this
    exact this)
   have h12:∀W,(Instr.sliceAt 22 (.slice A' D.length ck) none (some (.int .i64 (m:Int))) none).run Tryz.prog W=.ok (.slice A' m ck) W:=fun W=>run_takeE W _ _ _ m .i64 (by omega)
   have h13:∀W,(Instr.sliceAt 22 (.slice A' D.length ck) (some (.int .i64 (m:Int))) none none).run Tryz.prog W=.ok (.slice A2 rest.length (ck-m)) W:=fun W=>by
    have:=run_cutE W A' D.length ck m .i64 hmD
    rw[←hA2,show D.length-m=rest.length by omega] at this
    exact this
   have HBld:Hid (∀W,Below w.heap.size w W→Calls Tryz.prog 53 #[.slice A' m ck,.int .i64 (ev:Int)] W fun e w'=>∃v,e=.returned (.tuple #[v,.int .i64 0])∧OB w' W.heap.size v (blockB ev part)∧Below W.heap.size W w'):=Lib.hid (fun W hW=>by
    have:=kBuild_any (.slice A' m ck) part (ev:Int) W (HS1.out.on hW) (by omega) (fun e he=>by have:=hDz e (by rw[hpart] at he;exact List.mem_of_mem_take he);omega) (by omega) (by omega)
    rw[build_is he1 he2 hpr (by omega)] at this
    exact this)
   have HRL:=Lib.hid (And.intro hpl (And.intro hpr (And.intro hptx (And.intro hm (And.intro hpart hrest)))))
   have hPz:∀e∈part,e.user.size≤1024:=fun e he=>(hDz e (by rw[hpart] at he;exact List.mem_of_mem_take he)).1
   have hRz:∀e∈rest,e.user.size≤1024:=fun e he=>(hDz e (by rw[hrest] at he;exact List.mem_of_mem_drop he)).1
   clear hDl hA2 hDall hDr hpr hptx hm hpart hrest
   go_upto_region 12 with (go_at_call 52;refine HCut.out.mono ?_;rintro _ w8 ⟨rfl,hb8⟩)
   have b8:=bstep hbr hb8
   obtain⟨_,_,⟨_,t1,_⟩⟩:=HKS.out _ b8
   clear HCut s0 s1 s2
   go_upto_region 17 with (go_at_call 53;refine (HBld.out _ (HB0.out _ b8)).mono ?_;rintro _ w9 ⟨vb,rfl,hob,hb9⟩)
   have b9:=bstep b8 hb9
   have hbw9:=HB0.out _ b9
   obtain⟨m1,hm1'⟩:∃m1,m1+1=m:=⟨m-1,by omega⟩
   have gm1:(m:Int)-1=(m1:Int):=by omega
   have gm1w:IntKind.i64.wrap ((m:Int)-1)=(m1:Int):=by rw[IntKind.wrap_i64];omega
   have hm1p:m1<part.length:=by have:=HRL.out.1;omega
   have hm1i:(m1:Int)<(m:Int):=by omega
   obtain⟨b,o,hA',hbB,c0,_,_,_⟩:=(HS1.out.rd.2.below hbw9).ent rfl (k:=m1) hm1p
   subst hA'
   obtain⟨lu,hlu⟩:∃lu,lu=part[m1].user:=⟨_,rfl⟩
   rw[←hlu] at c0
   have hlus:lu.size≤1024:=by rw[hlu];exact hPz _ (List.getElem_mem hm1p)
   have hlg:part.getD (part.length-1) ent0=part[m1]:=by
    have e:part.length-1=m1:=by have:=HRL.out.1;omega
    rw[e,List.getD_eq_getElem?_getD,List.getElem?_eq_getElem hm1p];rfl
   obtain⟨bd,hbd⟩:∃bd,bd=boundF part rest:=⟨_,rfl⟩
   have HLU:=Lib.hid (And.intro hlu (And.intro hlg hbd))
   clear hlu hlg h12 h13 t1 HBld hbd
   go_upto_if 114 with fail
   clear c0 gm1 gm1w hm1i
   go_cut [21] (fun bv wx=>bv=.string ⟨bd.toArray⟩∧Below w9.heap.size w9 wx)
   case first =>
    by_cases hr0:0<rest.length
    ·have hr0i:(0:Int)<(rest.length:Int):=by omega
     have hr0d:decide ((0:Int)<(rest.length:Int))=true:=by simp;omega
     obtain⟨b2,o2,hA2',hb2B,d0,_,_,_⟩:=(HS2.out.rd.2.below hbw9).ent rfl (k:=0) hr0
     subst hA2'
     simp only[Nat.zero_mul,Nat.add_zero] at d0
     obtain⟨ru,hru⟩:∃ru,ru=rest[0].user:=⟨_,rfl⟩
     rw[←hru] at d0
     have hrus:ru.size≤1024:=by rw[hru];exact hRz _ (List.getElem_mem hr0)
     have HBt:Hid (∀W,Calls Tryz.prog 54 #[.string lu,.string ru] W fun en w'=>en=.returned (.string ⟨bd.toArray⟩)∧Below W.heap.size W w'):=Lib.hid (fun W=>by
      have:=iBetween_any lu ru W (by omega) (by omega)
      have e:boundF part rest=between lu.data.toList ru.data.toList:=by
       rw[hru,HLU.out.1,←HLU.out.2.1]
       cases rest with
       | nil=>simp at hr0
       | cons x r=>rfl
      rw[HLU.out.2.2,e]
      exact this)
     clear hru
     go_wp2_with (go_at_call 54;refine (HBt.out _).mono ?_;rintro _ w10 ⟨rfl,hb10⟩)
     go_meet
     exact⟨rfl,hb10⟩
    ·have hr0i:rest=[]:=List.length_eq_zero_iff.1 (by omega)
     have e:(⟨bd.toArray⟩:ByteArray)=lu:=by
      rw[HLU.out.2.2,hr0i]
      show (⟨(part.getD (part.length-1) ent0).user.data.toList.toArray⟩:ByteArray)=lu
      rw[HLU.out.2.1,←HLU.out.1,ba_eta]
     subst hr0i
     go_wp2_with fail
     go_meet
     exact⟨by rw[e],bself _⟩
   case rest =>
    obtain⟨rfl,hbc⟩:=hcut
    have bc:=bstep b9 hbc
    have hbwc:=HB0.out _ bc
    have zc:=bc.size
    have z9:=b9.size
    have zc9:=hbc.size
    have hzr9:Below _ _ wc:=(bstep (bstep hb8 hb9) hbc)
    have hKT:=hk.on hbwc h1
    have hrw:=HBD.out.rows.below hzr9 (Nat.le_refl _)
    have HD2:Hid (rest=l.drop (k+m)∧rowsF (blk:Int) l.length l=(R0++[(bd,part)])++rowsF (blk:Int) rest.length rest∧(R0++[(bd,part)]).flatMap (·.2)=l.take (k+m)):=Lib.hid (by
     obtain⟨hpl,_,_,hm,hpart,hrest⟩:=HRL.out
     obtain⟨e1,e2,e3⟩:=HD.out
     refine⟨by rw[hrest,e1,List.drop_drop],?_,?_⟩
     ·rw[e2,rowsF_step _ D (List.length_pos_iff.1 hD0),←hm,←hpart,←hrest,←HLU.out.2.2]
      simp
     ·rw[List.flatMap_append,e3]
      simp only[List.flatMap_cons,List.flatMap_nil,List.append_nil]
      rw[hpart,e1,List.take_add])
    have hbnd:∀p∈prts (sealP K ad) ev R0,p.bound.length≤1024:=fun p hp=>by
     obtain⟨r,hr,e⟩:=prts_bound hp
     rw[e]
     exact HRB.out r (by rw[HD.out.2.1];exact List.mem_append_left _ hr)
    have hbdl:bd.length≤1024:=HRB.out (bd,part) (by rw[HD2.out.2.1];simp)
    have hPsl:=prts_length (sealP K ad) ev R0
    have hidx:=idxB_le leafB leafB_length (prts (sealP K ad) ev R0) hbnd
    have hbl:=blockB_le ev part
    have hptx:=HRL.out.2.2.1
    have hplm:=HRL.out.1
    have hbody:=bodyB_le (sealP K ad) ev (sealP_length K ad) R0
    have hbody2:(bodyB (prts (sealP K ad) ev R0)).length≤100000:=by
     rw[HD.out.2.2] at hbody
     have:=textE_take l k
     rw[List.length_take] at hbody
     omega
    have HStr:Hid (Calls Tryz.prog 55 #[u13,.string ⟨bd.toArray⟩] wc fun e w'=>∃r,e=.returned r∧OB w' wc.heap.size r (idxB leafB (prts (sealP K ad) ev R0)++num bd.length++bd)∧Below wc.heap.size wc w'):=Lib.hid (by
     have:=cStr_any u13 _ ⟨bd.toArray⟩ wc hrw.sb (by show _+10+bd.toArray.size≤_;simp only[List.size_toArray];omega)
     have e:(⟨bd.toArray⟩:ByteArray).size=bd.length:=by show bd.toArray.size=_;simp
     have e2:(⟨bd.toArray⟩:ByteArray).data.toList=bd:=rfl
     rw[e,e2] at this
     exact this)
    have HPut:Hid (∀W,Below wc.heap.size wc W→Calls Tryz.prog 56 #[.pointer (some ⟨P,0,none⟩),.int .i64 (((2+R0.length:Nat)):Int),vb] W fun e w'=>∃r vo' vl',e=.returned r∧OB w' W.heap.size r (oneT leafB (sealP K ad (2+R0.length) (blockB ev part))) ∧
      WrAt w' wA.heap.size P K ad va vo' vl' ((ad++bodyB (prts (sealP K ad) ev R0))++sealP K ad (2+R0.length) (blockB ev part)) (((prts (sealP K ad) ev R0).map (fun p=>leafD p.bytes))++[leafD (sealP K ad (2+R0.length) (blockB ev part))])∧FS W.heap.size vo vo'∧FS W.heap.size vl vl'∧WrFr W w' P vo vl∧Below wA.heap.size W w'):=Lib.hid (fun W hW=>by
     have zW:=hW.size
     have hW9:Below w9.heap.size w9 W:=bstep hbc hW
     have hWr:=bstep hzr9 hW
     refine kPut_tab wA.heap.size P K ad _ (blockB ev part) _ va vo vl vb (2+R0.length) W (HBD.out.wrt.on hWr) hKl (hob.sb.on hW9) hadm (by omega) (by rw[List.length_append];omega) (by rw[List.length_map,hPsl];omega) (by omega) (by omega) (hk.on (hbwc.trans (hW.mono (by omega))) h1) (by omega))
    have g2:IntKind.i64.wrap (2+(R0.length:Int))=((2+R0.length:Nat):Int):=by rw[IntKind.wrap_i64];omega
    have g2':2+(R0.length:Int)=((2+R0.length:Nat):Int):=by omega
    obtain⟨q2,hq2⟩:∃q2,q2=2+R0.length:=⟨_,rfl⟩
    rw[←hq2] at g2 g2' HPut
    have HQ2:=Lib.hid hq2
    clear hq2
    have HNE:Hid (∀b1,wc.heap.size≤b1→b1≠P∧vo.ownBlock≠some b1∧vl.ownBlock≠some b1):=Lib.hid (fun b1 hb=>by
     have h1:=HBD.out.wrt.lt
     have h2:=hzr9.size
     exact⟨by omega,fun e=>by have:=(HBD.out.wrt.oo.lt b1 e).2;omega,fun e=>by have:=(HBD.out.wrt.od.lt b1 e).2;omega⟩)
    have hn1:0<(idxB leafB (prts (sealP K ad) ev R0)++num bd.length++bd).length:=by have:=num_length bd.length;rw[List.length_append,List.length_append];omega
    have hn2:0<(oneT leafB (sealP K ad q2 (blockB ev part))).length:=by have:=num_length (sealP K ad q2 (blockB ev part)).length;unfold oneT;rw[List.length_append];omega
    have hn3:(idxB leafB (prts (sealP K ad) ev R0)++num bd.length++bd).length+(oneT leafB (sealP K ad q2 (blockB ev part))).length≤140737488355328:=by
     have:=num_length bd.length
     have:=oneT_le leafB leafB_length (sealP K ad q2 (blockB ev part))
     rw[List.length_append,List.length_append]
     omega
    obtain⟨s1,hs1⟩:∃s1,s1=idxB leafB (prts (sealP K ad) ev R0)++num bd.length++bd:=⟨_,rfl⟩
    obtain⟨s2,hs2⟩:∃s2,s2=oneT leafB (sealP K ad q2 (blockB ev part)):=⟨_,rfl⟩
    rw[←hs1] at HStr hn1 hn3
    rw[←hs2] at HPut hn2 hn3
    have HSS:=Lib.hid (And.intro hs1 hs2)
    clear hs1 hs2 hbl hptx hplm hbody hbody2 hidx hPsl hbdl hbnd
    go_upto_region 21 with (first|(go_at_call 55;refine HStr.out.mono ?_;rintro _ w10 ⟨r1,rfl,ho10,hb10⟩;obtain⟨b1,c1,rfl⟩:=ho10.form0 hn1)|(go_at_call 56;refine (HPut.out _ hb10).mono ?_;rintro _ w11 ⟨r2,vo',vl',rfl,ho11,hw11,hfo11,hfl11,hfr11,hb11⟩;obtain⟨b2,c2,rfl⟩:=ho11.form0 hn2;have ho10':=ho10.frNew hfr11 (HNE.out _ (ho10.lt _ rfl).1);have hz11:wc.heap.size≤w11.heap.size:=Nat.le_trans hb10.size hb11.size)|(at_builtin;go_loud (refine wl_appB rfl (.tmp 123) (.tmp 128) rfl wc.heap.size _ s1 rfl ho10' w11.heap.size _ s2 rfl ho11.sb hn3 hz11 ?_);intro r3 w12 ho12 hg12 hs12 hb12))
    have b10':=bstep hzr9 hb10
    have hz1011:=hb11.size
    obtain⟨hu12,hw12,hru12,huo12,hul12,hrP12,hro12,hrl12,hra12⟩:=HBD.out.putRow b10' ho10 hzr9.size hw11 hfo11 hfl11 hfr11 hz1011 hg12 hs12
    have b12:Below wA.heap.size wA w12:=((bstep bc hb10).trans hb11).trans (hb12.mono (by omega))
    obtain⟨R1,hR1⟩:∃R1,R1=R0++[(bd,part)]:=⟨_,rfl⟩
    have hPs:prts (sealP K ad) ev R1=prts (sealP K ad) ev R0++[⟨bd,part,sealP K ad q2 (blockB ev part)⟩]:=by rw[hR1,prts_snoc,HQ2.out];rfl
    have hR1l:R1.length=R0.length+1:=by rw[hR1,List.length_append];rfl
    have HB12:Hid (BdAt w w12 wA.heap.size P K ad ev l va r3 u15 (k+0) R1 vo' vl'):=Lib.hid (by
     refine⟨?_,by rw[Nat.add_zero];exact hu12,?_,hru12,HBD.out.uP,HBD.out.ua,huo12,hul12,hrP12,hro12,hrl12,hra12⟩
     ·have h1:=ho12.rebase (base':=wA.heap.size) (by omega)
      rw[HSS.out.1,HSS.out.2] at h1
      rw[hPs,idxB_snoc]
      simpa [List.append_assoc] using h1
     ·rw[hPs,bodyB_snoc,List.map_append,←List.append_assoc]
      exact hw12)
    rw[←hR1] at HD2
    have hml:m=part.length:=HRL.out.1.symm
    have hkm:k+m≤l.length:=by omega
    have hpd:∀j (hj:j<part.length),k+j<l.length∧l.take (k+(j+1))=l.take (k+j)++[part[j]]:=fun j hj=>by
     have e1:=HD.out.1
     have e2:=HRL.out.2.2.2.2.1
     have hl:k+j<l.length:=by omega
     refine⟨hl,?_⟩
     rw[←Nat.add_assoc,List.take_succ_eq_append_getElem hl]
     congr 2
     have:part[j]? = some l[k+j]:=by rw[e2,List.getElem?_take,if_pos (by omega),e1,List.getElem?_drop,List.getElem?_eq_getElem hl]
     rw[List.getElem?_eq_getElem hj] at this
     injection this with this
     exact this.symm
    have HPD:=Lib.hid hpd
    clear hml hpd hPs hu12 hw12 hru12 huo12 hul12 hrP12 hro12 hrl12 hra12 hw11 ho10 ho10' ho11 ho12 hfo11 hfl11 hfr11 hb11 hb10 hg12 hs12 hb12 HStr HPut HNE HSS HLU g2 g2' hn1 hn2 hn3 hob hbc hKT hR1 b10' hrw
    go_wp2_with fail
    go_loopw [15,132] (fun uv iv wz=>∃j:Nat,iv=.int .i64 j∧j≤m∧Hid (BdAt w wz wA.heap.size P K ad ev l va r3 uv (k+j) R1 vo' vl')∧Below wA.heap.size wA wz) (fun _ iv _=>m-(intOf iv).toNat)
    case atStart=>exact⟨0,rfl,Nat.zero_le _,HB12,b12⟩
    case round =>
     obtain⟨j,rfl,hjm,HBJ,hbj⟩:=hrel
     by_cases hlt:j<m
     ·have hjp:j<part.length:=by have:=HRL.out.1;omega
      obtain⟨b',o',hA3,hb3B,c0,c1,c2,c3⟩:=(HS1.out.rd.2.below (HB0.out _ hbj)).ent rfl (k:=j) hjp
      injection hA3 with hA3
      injection hA3 with e1 e2
      subst e1;subst e2
      obtain⟨x,hx⟩:∃x,x=part[j]:=⟨_,rfl⟩
      obtain⟨hkj,htk⟩:=HPD.out j hjp
      rw[←hx] at c0 c1 c2 c3 htk
      have hjB:=HBJ.out.users
      have hjz:=hbj.size
      have hST:∀o:Obj,ST ((wr.alloc o).alloc (.cells #[.string x.user] 9)) (wr.heap.size+1+1) (.slice (some ⟨wr.heap.size+1,0,none⟩) 1 1) [x.user.data.toList]:=fun o=>by
       have h1:=Rd.newBlock (size:=1) (wr.alloc o) #[.string x.user] 9 (g:=wr.heap.size+1) (n:=1) (B:=wr.heap.size+1+1) (by simp) (Nat.lt_succ_self _) rfl
       refine⟨_,_,rfl,Nat.le_refl _,by simp[maxLen],?_⟩
       rw[show [x.user.data.toList].map encStr=[Value.string x.user] from by simp only[List.map_cons,List.map_nil,encStr,ba_eta]]
       exact h1
      have hul:(usersE (l.take (k+j))).length≤1000:=by unfold usersE;rw[List.length_map,List.length_take];omega
      have hul2:((usersE (l.take (k+j))).length+[x.user.data.toList].length)*16≤140737488355328:=by simp only[List.length_cons,List.length_nil];omega
      obtain⟨wz,hwz⟩:∃wz,wz=wr:=⟨_,rfl⟩
      clear hwz wz
      have HTK:=Lib.hid (And.intro hkj htk)
      clear hx htk hkj
      go_wp2_with (at_builtin;go_loud (refine wl_appT rfl (.tmp 136) (.tmp 139) rfl wA.heap.size _ _ rfl ((hjB.alloc _).alloc _) _ _ [x.user.data.toList] rfl (hST _) hul2 (by simp only[World.size_alloc];omega) ?_);intro uv' w14 ho14 hg14 hs14 hb14)
      have hz14:=hb14.size
      have b14:=(balloc (balloc hbj _) _).trans hb14
      refine⟨⟨j+1,by simp,by omega,Lib.hid ?_,b14⟩,by simp only[intOf];omega⟩
      refine BdAt.user HBJ.out (by rw[HTK.out.2];unfold usersE at ho14 ⊢;rw[List.map_append];exact ho14) (((World.grownBy_alloc _ _ _).trans (World.grownBy_alloc _ _ _)).trans hg14) (hs14.imp id (fun e=>⟨_,e,by simp only[World.size_alloc];omega⟩))
     ·obtain rfl:j=m:=by omega
      obtain⟨_,⟨_,wc65,_⟩,_⟩:=wr_cells HBJ.out.wrt.row hKl
      have hout:=HBJ.out.wrt.oo
      have hbody:=bodyB_le (sealP K ad) ev (sealP_length K ad) R1
      have hbody2:(ad++bodyB (prts (sealP K ad) ev R1)).length≤110000:=by
       rw[HD2.out.2.2] at hbody
       have:=textE_take l (k+j)
       rw[List.length_take] at hbody
       rw[List.length_append]
       omega
      have hop:0<(ad++bodyB (prts (sealP K ad) ev R1)).length:=by rw[List.length_append];omega
      obtain⟨gz,cz,rfl⟩:=hout.form0 hop
      have hbig:decide ((16777216:Int)<((ad++bodyB (prts (sealP K ad) ev R1)).length:Int))=false:=by simp only[decide_eq_false_iff_not];omega
      obtain⟨nz,hnz⟩:∃nz,nz=(ad++bodyB (prts (sealP K ad) ev R1)).length:=⟨_,rfl⟩
      rw[←hnz] at hbig wc65
      have hjm0:¬((j:Int)<(j:Int)):=by omega
      clear hbody hbody2 hop hout
      have HNZ:=Lib.hid hnz
      clear hnz
      go_wp2_with fail
      refine⟨⟨k+j,rest,R1,_,_,A2,ck-j,by rw[hR1l];rfl,rfl,by omega,by omega,by omega,by omega,HD2,HS2,HBJ,hbj⟩,?_⟩
      show rest.length<D.length
      omega
  ·obtain rfl:D=[]:=List.length_eq_zero_iff.1 (by omega)
   have hkl:k=l.length:=by simpa using hkD
   subst hkl
   have HR0:Hid (rowsF (blk:Int) l.length l=R0):=Lib.hid (by rw[HD.out.2.1];exact List.append_nil R0)
   have hR0l:R0.length≤1000:=by omega
   have hbody:=bodyB_le (sealP K ad) ev (sealP_length K ad) R0
   rw[HD.out.2.2,List.take_length] at hbody
   have hbnd:∀p∈prts (sealP K ad) ev R0,p.bound.length≤1024:=fun p hp=>by
    obtain⟨r,hr,e⟩:=prts_bound hp
    rw[e]
    exact HRB.out r (by rw[HR0.out];exact hr)
   have hPsl:=prts_length (sealP K ad) ev R0
   have hidx:=idxB_le leafB leafB_length (prts (sealP K ad) ev R0) hbnd
   obtain⟨Ps,hPs⟩:∃Ps,Ps=prts (sealP K ad) ev R0:=⟨_,rfl⟩
   have HPS:Hid (tabPs K ad ev (blk:Int) l=Ps∧Ps.length=R0.length):=Lib.hid ⟨by unfold tabPs;rw[HR0.out,hPs],by rw[hPs];exact hPsl⟩
   obtain⟨hrows,husers,hwrt,hru,huP,hua,huo,hul,hrP,hro,hrl,hra⟩:=HBD.out
   rw[←hPs] at hrows hwrt hbody hidx hPsl
   rw[List.take_length] at husers
   clear hPs hbnd
   have hidx2:(idxB leafB Ps).length≤1076000:=by omega
   have hbody2:(ad++bodyB Ps).length≤110000:=by rw[List.length_append];omega
   clear hidx hbody
   obtain⟨out0,hout0⟩:∃out0,out0=ad++bodyB Ps:=⟨_,rfl⟩
   obtain⟨lv0,hlv0⟩:∃lv0,lv0=Ps.map (fun p=>leafD p.bytes):=⟨_,rfl⟩
   obtain⟨ix0,hix0⟩:∃ix0,ix0=idxB leafB Ps:=⟨_,rfl⟩
   have hlv0l:lv0.length≤1000:=by rw[hlv0,List.length_map];omega
   rw[←hout0] at hwrt hbody2
   rw[←hlv0] at hwrt
   rw[←hix0] at hrows hidx2
   have HO0:=Lib.hid (And.intro hout0 (And.intro hlv0 hix0))
   clear hout0 hlv0 hix0
   have hul1:(usersE l).length≤1000:=by unfold usersE;rw[List.length_map];omega
   have HUZ:Hid (∀x∈usersE l,x.length≤1024):=Lib.hid (fun x hx=>by
    obtain⟨e,he,rfl⟩:=List.mem_map.1 hx
    have:=(rightE_le (HALL.out.2.2.2.1 e he)).1
    show e.user.data.toList.length≤1024
    rw[toList_size]
    exact this)
   have hzr:=hbr.size
   have hA0:0<wA.heap.size:=by omega
   have HA1:=Lib.hid zA
   have HLN:=Lib.hid (And.intro hul1 (And.intro hlv0l (And.intro hidx2 (And.intro hbody2 (And.intro hR0l hPsl)))))
   have HOW:=Lib.hid (And.intro hrows (And.intro husers hwrt))
   have HAP:=Lib.hid (And.intro huP (And.intro hua (And.intro huo (And.intro hul (And.intro hrP (And.intro hro (And.intro hrl (And.intro hru hra))))))))
   clear hul1 hlv0l hidx2 hbody2 hPsl hrows husers hwrt huP hua huo hul hrP hro hrl hru hra hR0l hcs hKb z6 zA bA hD0 hkD HD HSE HBD HIN
   go_upto_region 28 with fail
   have hbrd:=bdrew hbr
   have s2:=(HKS.out _ hbrd).2.2.2.2
   have HUD:Hid (OT wr.drew wA.heap.size u15 (usersE l)):=Lib.hid (own_below HOW.out.2.1 (bdrew (bself wr)) (Nat.le_refl _))
   refine wp_region_noPanic ?_
   refine wp_region_held_drew (S:=fun w'=>True∧w'.cell? ⟨w.heap.size+1+1,2,none⟩=some (.int .i64 (bits:Int))) (by kernel_rfl) ⟨trivial,s2⟩ (fun hHeld=>?_)
   refine rtk 0 ?_
   refine rtk 1 ?_
   refine rtk 2 ?_
   refine rtk 4 ?_
   refine rtk 5 ?_
   refine ro 3 (fun K hK=>?_)
   (go_simp;go_at_call 58;refine (kCompact_any u15 wA.heap.size (usersE l) wr.drew HUD.out (by have:=HLN.out.1;omega) hzr).mono ?_;rintro _ w5 ⟨v5,ks,rfl,hst5,hkn,hkm,hks,hbb5,hg5⟩;have b5:=hbrd.trans hbb5;go_wp2_with fail)
   refine hK.out _ _ ?_ (fun hHeld=>?_)
   ·exact⟨trivial,(HKS.out _ b5).2.2.2.2⟩
   clear hK K
   try simp only[Act.put,q1,q2,q3]
   have hksn:ks.length≤1000:=by have:=HLN.out.1;omega
   refine ro 6 (fun K hK=>?_)
   (go_simp;go_at_call 57;refine (kMake_any v5 ks bits w5 hst5 (by omega) hbi1 hbi2 (fun x hx=>Nat.le_trans (HUZ.out x (hks x hx)) (by omega))).mono ?_;rintro _ w6 ⟨r6,rfl,ho6,hbb6⟩;have b6:=bstep b5 hbb6;go_wp2_with fail)
   refine hK.out _ _ ?_ (fun hHeld=>?_)
   ·exact⟨trivial,(HKS.out _ b6).2.2.2.2⟩
   clear hK K
   try simp only[Act.put,q1,q2,q3]
   have h56:=hbb6.size
   have h05:=hg5.size
   have HW6:Hid (OB w6 wA.heap.size u13 ix0∧WrAt w6 wA.heap.size P K ad va vo vl out0 lv0):=Lib.hid (by
    have hg5':wr.grownBy w5 u15.ownBlock:=⟨hg5.os,hg5.tape,hg5.output,hg5.size,hg5.block⟩
    obtain⟨huP,hua,huo,hul,hrP,hro,hrl,hru,hra⟩:=HAP.out
    exact⟨(HOW.out.1.grown hg5' hru).below hbb6 (Nat.le_refl _),(HOW.out.2.2.keepG hg5' (fun e=>huP e.symm) hua.symm huo.symm hul.symm).on hbb6⟩)
   obtain⟨F0,hF0⟩:∃F0,F0=filtB ks bits:=⟨_,rfl⟩
   have hF0l:F0.length≤9000:=by
    rw[hF0,filtB_length]
    unfold sizeOf'
    have:ks.length*bits≤1000*64:=Nat.mul_le_mul hksn hbi2
    omega
   have hfilt:FiltOk F0 l:=by
    rw[hF0]
    have hp1:1≤probesOf bits∧probesOf bits≤30:=by unfold probesOf;omega
    have hpn:(UInt8.ofNat (probesOf bits)).toNat=probesOf bits:=by rw[UInt8.toNat_ofNat'];omega
    have hsz:sizeOf' ks.length bits≤9000∧0<sizeOf' ks.length bits:=by
     unfold sizeOf'
     have:ks.length*bits≤1000*64:=Nat.mul_le_mul hksn hbi2
     omega
    refine⟨_,_,rfl,by rw[fillB_length,List.length_replicate];exact hsz.2,by rw[fillB_length,List.length_replicate];omega,by rw[hpn];exact hp1.1,by rw[hpn];exact hp1.2,fun e he=>?_⟩
    rw[hpn]
    exact may_fill _ _ _ _ (by rw[List.length_replicate];exact hsz.2) (hkm _ (List.mem_map.2 ⟨e,he,rfl⟩))
   rw[←hF0] at ho6
   have HFO:=Lib.hid hfilt
   clear hF0 hfilt
   have hz6:=b6.size
   obtain⟨FF,hFF⟩:∃FF,FF=sealP K ad 1 F0:=⟨_,rfl⟩
   have hFFl:FF.length≤9016:=by rw[hFF,sealP_length];omega
   have hoFF:=oneT_le leafB leafB_length FF
   have hPw:P<wr.heap.size:=HOW.out.2.2.lt
   have HP1:Hid (Calls Tryz.prog 56 #[.pointer (some ⟨P,0,none⟩),.int .i64 1,r6] w6 fun e w'=>∃r vo' vl',e=.returned r∧OB w' w6.heap.size r (oneT leafB FF) ∧
     WrAt w' wA.heap.size P K ad va vo' vl' (out0++FF) (lv0++[leafD FF])∧FS w6.heap.size vo vo'∧FS w6.heap.size vl vl'∧WrFr w6 w' P vo vl∧Below wA.heap.size w6 w'):=Lib.hid (by
    have hln:=HLN.out
    rw[hFF]
    exact kPut_tab wA.heap.size P K ad out0 F0 lv0 va vo vl r6 1 w6 HW6.out.2 hKl ho6.sb hadm (by omega) (by omega) (by omega) (by omega) hz6 (hk.on (HB0.out _ b6) h1) (by omega))
   have HFF:=Lib.hid hFF
   clear hFF
   refine ro 7 (fun K hK=>?_)
   (go_simp;go_at_call 56;refine HP1.out.mono ?_;rintro _ w7 ⟨r7,vo7,vl7,rfl,ho7,hw7,hfo7,hfl7,hfr7,hbb7⟩;have b7:=b6.trans hbb7;have hz7:=hbb7.size;have hrw7:OB w7 wA.heap.size u13 ix0:=HW6.out.1.fr hfr7 HAP.out.2.2.2.2.1 HAP.out.2.2.2.2.2.1 HAP.out.2.2.2.2.2.2.1;go_wp2_with fail)
   refine hK.out _ _ ?_ (fun hHeld=>?_)
   ·exact⟨trivial,(HKS.out _ b7).2.2.2.2⟩
   clear hK K
   try simp only[Act.put,q1,q2,q3]
   have hzA7:=b7.size
   refine ro 8 (fun K hK=>?_)
   (refine wp_appB (.tmp 149) (.tmp 156) rfl wA.heap.size u13 ix0 rfl hrw7 w7.heap.size r7 (oneT leafB FF) rfl ho7.sb (by have:=HLN.out.2.2.1;omega) hzA7 ?_;intro v8 w8 ho8 hg8 hs8 hbb8;have b8:=b7.trans hbb8)
   refine hK.out _ _ ?_ (fun hHeld=>?_)
   ·exact⟨trivial,(HKS.out _ b8).2.2.2.2⟩
   clear hK K
   try simp only[Act.put,q1,q2,q3]
   refine rtk 9 ?_
   refine rdn ?_
   have hw8:WrAt w8 wA.heap.size P K ad va vo7 vl7 (out0++FF) (lv0++[leafD FF]):=by
    obtain⟨huP,hua,huo,hul,hrP,hro,hrl,hru,hra⟩:=HAP.out
    refine hw7.keepG hg8 (fun e=>hrP e.symm) hra.symm (Ap.symm (hro.right (fun j hj=>(HW6.out.1.lt j hj).2) hfo7)) (Ap.symm (hrl.right (fun j hj=>(HW6.out.1.lt j hj).2) hfl7))
   obtain⟨gz,cz,rfl⟩:=hw8.oo.form0 (by have e:=HO0.out.1;rw[List.length_append,e,List.length_append];omega)
   obtain⟨_,⟨_,wc65,_⟩,_⟩:=wr_cells hw8.row hKl
   have hn8:0<(ix0++oneT leafB FF).length:=by have:=num_length FF.length;unfold oneT;simp only[List.length_append];omega
   obtain⟨g8,c8,rfl⟩:=ho8.form0 hn8
   obtain⟨out1,hout1⟩:∃out1,out1=out0++FF:=⟨_,rfl⟩
   obtain⟨lv1,hlv1⟩:∃lv1,lv1=lv0++[leafD FF]:=⟨_,rfl⟩
   rw[←hout1] at hw8 wc65
   rw[←hlv1] at hw8
   obtain⟨n24,hn24⟩:∃n24,n24=out1.length:=⟨_,rfl⟩
   rw[←hn24] at wc65
   have hln:=HLN.out
   have hout1l:n24≤120000:=by rw[hn24,hout1,List.length_append];omega
   have hlv1l:lv1.length≤1001:=by rw[hlv1,List.length_append];simp only[List.length_cons,List.length_nil];omega
   have HO1:=Lib.hid (And.intro hout1 (And.intro hlv1 hn24))
   have hW8:=Lib.hid hw8
   have hO8:=Lib.hid ho8
   have ix1l:(ix0++oneT leafB FF).length≤1076042:=by rw[List.length_append];omega
   obtain⟨ix1,hix1⟩:∃ix1,ix1=ix0++oneT leafB FF:=⟨_,rfl⟩
   rw[←hix1] at ix1l hO8 hn8 ⊢
   have HIX:=Lib.hid hix1
   obtain⟨rc,hrc⟩:∃rc,rc=R0.length:=⟨_,rfl⟩
   rw[←hrc] at hln HPS ⊢
   have hrcl:rc≤1000:=by omega
   have grc:IntKind.u64.wrap (rc:Int)=(rc:Int):=by rw[IntKind.wrap_u64];omega
   have hnr:=num_length rc
   have hz8:=b8.size
   obtain⟨I0,hI0⟩:∃I0,I0=num rc++ix1:=⟨_,rfl⟩
   have hI0l:I0.length≤1076100:=by rw[hI0,List.length_append];omega
   have hI0p:0<I0.length:=by rw[hI0,List.length_append];omega
   obtain⟨II,hII⟩:∃II,II=sealP K ad 0 I0:=⟨_,rfl⟩
   have hIIl:II.length≤1076116:=by rw[hII,sealP_length];omega
   have HPut0:Hid (∀W v,Below w8.heap.size w8 W→SB W W.heap.size v I0→Calls Tryz.prog 56 #[.pointer (some ⟨P,0,none⟩),.int .i64 0,v] W fun e w'=>∃r vo' vl',e=.returned r ∧
     WrAt w' wA.heap.size P K ad va vo' vl' (out1++II) (lv1++[leafD II])∧Below wA.heap.size W w'):=Lib.hid (fun W v hW hv=>by
    have zW:=hW.size
    rw[hII]
    refine (kPut_tab wA.heap.size P K ad out1 I0 lv1 va _ vl7 v 0 W (hW8.out.on hW) hKl hv hadm (by omega) (by omega) (by omega) (by omega) (by omega) (hk.on ((HB0.out _ b8).trans (hW.mono (by have:=(HB0.out _ b8).size;omega))) h1) hA0).mono ?_
    rintro e w' ⟨r,vo',vl',he,_,hw',_,_,_,hb'⟩
    exact⟨r,vo',vl',he,hw',hb'⟩)
   have HI0:=Lib.hid (And.intro hI0 hII)
   clear hI0 hII hix1 hrc hn24 hout1 hlv1 hw8 ho8 hw7 hfr7 hfl7 hfo7 hs8 hg8 hrw7 ho7 hoFF
   go_upto_region 30 with fail
   go_upto_region 31 with (first|(go_at_call 59;refine (cNum_any _ [] rc w8 (SB.nil_ _ _) (by simp) (by omega)).mono ?_;rintro _ w9 ⟨r9,rfl,ho9,hbb9⟩;rw[List.nil_append] at ho9;obtain⟨g9,c9,rfl⟩:=ho9.form0 (by omega);have hz9:=hbb9.size)|(at_builtin;go_loud (refine wl_appB rfl (.tmp 166) (.tmp 167) rfl w8.heap.size _ (num rc) rfl ho9 w9.heap.size _ ix1 rfl (hO8.out.below hbb9 (Nat.le_refl _)).sb (by omega) hz9 ?_);intro v10 w10 ho10 hg10 hs10 hbb10;rw[←HI0.out.1] at ho10;obtain⟨g10,c10,rfl⟩:=ho10.form0 hI0p)|(go_at_call 56;refine (HPut0.out _ _ (hbb9.trans hbb10) ho10.sb).mono ?_;rintro _ w11 ⟨r11,vo11,vl11,rfl,hw11,hbb11⟩))
   have b11:=(b8.trans ((hbb9.trans hbb10).mono hz8)).trans hbb11
   clear hs10 hg10 ho10 ho9 hbb9 hbb10 hbb11 hz9 HPut0
   obtain⟨out2,hout2⟩:∃out2,out2=out1++II:=⟨_,rfl⟩
   obtain⟨lv2,hlv2⟩:∃lv2,lv2=lv1++[leafD II]:=⟨_,rfl⟩
   rw[←hout2,←hlv2] at hw11
   obtain⟨n31,hn31⟩:∃n31,n31=out2.length:=⟨_,rfl⟩
   obtain⟨ni,hni⟩:∃ni,ni=II.length:=⟨_,rfl⟩
   rw[←hni] at hIIl
   have hn31e:n31=n24+ni:=by rw[hn31,hout2,List.length_append,hni,HO1.out.2.2]
   have hIIp:0<n31:=by rw[hn31e,hni,HI0.out.2,sealP_length];omega
   have hlv2l:lv2.length≤1002:=by rw[hlv2,List.length_append];simp only[List.length_cons,List.length_nil];omega
   have hlv2p:0<lv2.length:=by rw[hlv2,List.length_append];simp only[List.length_cons,List.length_nil];omega
   obtain⟨g11,c11,rfl⟩:=hw11.oo.form0 (by rw[←hn31];exact hIIp)
   obtain⟨gL,cL,rfl⟩:=hw11.od.form0 hlv2p
   have hw11d:=hw11.on (bdrew (bself w11))
   obtain⟨_,⟨_,wd65,_⟩,_⟩:=wr_cells hw11d.row hKl
   rw[←hn31] at wd65
   have HW11:=Lib.hid hw11d
   have HFix:Hid (Calls Tryz.prog 60 #[.slice (some ⟨g11,0,none⟩) n31 c11,.int .u64 (ni:Int),.int .i64 8] w11.drew fun e w'=>∃r,e=.returned r∧OB w' w11.drew.heap.size r (out2++fix ni 8)∧Below w11.drew.heap.size w11.drew w'):=Lib.hid (by
    have h2:=hw11d.oo.sb
    rw[←hn31] at h2
    exact cFix_any _ out2 ni 8 w11.drew h2 (by omega) (by omega) (by omega) (by omega))
   have HO2:=Lib.hid (And.intro hout2 (And.intro hlv2 (And.intro hn31 hni)))
   clear hw11 hw11d hout2 hlv2 hn31 hni
   have gsub:(n31:Int)-(n24:Int)=(ni:Int):=by omega
   have gsubw:IntKind.i64.wrap ((n31:Int)-(n24:Int))=(ni:Int):=by rw[gsub,IntKind.wrap_i64];omega
   have gniw:IntKind.i64.wrap (ni:Int)=(ni:Int):=by rw[IntKind.wrap_i64];omega
   have gnu:IntKind.u64.wrap (ni:Int)=(ni:Int):=by rw[IntKind.wrap_u64];omega
   have HN31:=Lib.hid hn31e
   clear hn31e
   have b11d:=bdrew b11
   refine wp_region_noPanic ?_
   refine wp_region_held_drew (S:=fun w'=>True∧w'.cell? ⟨P,65,none⟩=some (.slice (some ⟨g11,0,none⟩) n31 c11)) (by kernel_rfl) ⟨trivial,wd65⟩ (fun hHeld=>?_)
   refine rtk 0 ?_
   refine rtk 1 ?_
   refine rtk 2 ?_
   refine rtk 3 ?_
   refine rtk 4 ?_
   refine rtk 5 ?_
   refine rtk 6 ?_
   refine rtk 7 ?_
   refine rtk 8 ?_
   refine rtk 9 ?_
   refine rtk 10 ?_
   refine rtk 11 ?_
   refine ro 12 (fun K hK=>?_)
   (go_simp;go_at_call 60;refine HFix.out.mono ?_;rintro _ w12 ⟨r12,rfl,ho12,hbb12⟩;go_wp2_with fail)
   refine hK.out _ _ ?_ (fun hHeld=>?_)
   ·exact⟨trivial,(hbb12.cell (p:=⟨P,65,none⟩) HW11.out.lt).trans wd65⟩
   clear hK K
   try simp only[Act.put,q1,q2,q3]
   refine rtk 13 ?_
   refine rdn ?_
   have b12:=bstep b11d hbb12
   have hw12:=HW11.out.on hbb12
   have hT0:0<(out2++fix ni 8).length:=by rw[List.length_append,fix_length];omega
   obtain⟨g12,c12,rfl⟩:=ho12.form0 hT0
   obtain⟨tB,htB⟩:∃tB,tB=out2++fix ni 8:=⟨_,rfl⟩
   have hTl:tB.length≤1300000:=by rw[htB,List.length_append,fix_length,←HO2.out.2.2.1,HN31.out];omega
   rw[←htB] at ho12 hT0 ⊢
   have HTB:=Lib.hid htB
   have HO12:=Lib.hid ho12
   have HNF:Hid (∀g,g<w.heap.size+1+1+1+1→g12≠g∧P≠g):=Lib.hid (fun g hg=>by
    have h1:=(ho12.lt g12 rfl).1
    have h2:=HW11.out.hP
    have h3:=HA1.out
    have h4:wA.heap.size≤w11.heap.size:=b11.size
    have h5:w11.drew.heap.size=w11.heap.size:=rfl
    omega)
   clear htB ho12 gsub gsubw gniw gnu hIIp hHeld wd65 HFix
   have hbig:decide ((16777216:Int)<(tB.length:Int))=false:=by simp only[decide_eq_false_iff_not];omega
   go_upto_region 34 with fail
   have b12d:=bdrew b12
   have hzl:lv2.length≤2000:=by omega
   obtain⟨_,⟨_,_,wc66⟩,_⟩:=wr_cells (hw12.on (bdrew (bself w12))).row hKl
   obtain⟨_,⟨_,i1,i2,i3,i4⟩,_⟩:=HKS.out _ b12d
   obtain⟨n1,hn1⟩:∃n1,n1+1=l.length:=⟨l.length-1,by omega⟩
   have hn1l:n1<l.length:=by omega
   obtain⟨b,o,hA1,hbB,d0,_,_,_⟩:=(HV.out.rd.2.below (HB0.out _ b12d)).ent rfl (k:=0) hne
   obtain⟨b',o',hA2,_,dl,_,_,_⟩:=(HV.out.rd.2.below (HB0.out _ b12d)).ent rfl (k:=n1) hn1l
   subst hA1
   injection hA2 with hA2
   injection hA2 with e1 e2
   subst e1;subst e2
   simp only[Nat.zero_mul,Nat.add_zero] at d0
   obtain⟨mn,hmn⟩:∃mn,mn=l[0].user:=⟨_,rfl⟩
   obtain⟨mx,hmx⟩:∃mx,mx=l[n1].user:=⟨_,rfl⟩
   rw[←hmn] at d0
   rw[←hmx] at dl
   have HMN:Hid (mn=(l.getD 0 ent0).user∧mx=(l.getD (l.length-1) ent0).user):=Lib.hid (by
    have e:l.length-1=n1:=by omega
    rw[e,List.getD_eq_getElem?_getD,List.getD_eq_getElem?_getD,List.getElem?_eq_getElem hne,List.getElem?_eq_getElem hn1l]
    exact⟨hmn,hmx⟩)
   have gn1:(l.length:Int)-1=(n1:Int):=by omega
   have gn1w:IntKind.i64.wrap ((l.length:Int)-1)=(n1:Int):=by rw[IntKind.wrap_i64];omega
   have gn1i:(n1:Int)<(l.length:Int):=by omega
   have gn1v:IntKind.i64.wrap (n1:Int)=(n1:Int):=by rw[IntKind.wrap_i64];omega
   have gn10:(0:Int)≤(n1:Int):=by omega
   obtain⟨rl,hrl⟩:∃rl,rl=bv (rootR jnD zD lv2).1:=⟨_,rfl⟩
   have hrll:rl.length=32:=by rw[hrl,bv_length];exact (rootR jnD zD lv2).2
   have HRoot:Hid (∀W,Below w12.drew.heap.size w12.drew W→Calls Tryz.prog 61 #[.slice (some ⟨gL,0,none⟩) lv2.length cL] W fun e w'=>e=.returned (.agg rl.toArray)∧Below W.heap.size W w'):=Lib.hid (fun W hW=>kRoot_any lv2 hzl _ rl.toArray (by rw[hrl]) W (Sl.of_own ((hw12.on (bdrew (bself w12))).on hW).od) (hk.on (HB0.out _ (bstep b12d hW)) h1) (by have:=(bstep b12d hW).size;omega))
   obtain⟨mc,hmc⟩:∃mc,mc=([Value.int .u8 (h.lv:Int),.int .u64 (h.g:Int),.int .u64 (h.e:Int),.int .u64 (h.n:Int),.int .i64 (tB.length:Int),.int .i64 (l.length:Int),.string mn,.string mx]++rl).toArray:=⟨_,rfl⟩
   have HMS:Hid (mc.size=40∧mc.all (·.oneCell')=true):=Lib.hid (by
    refine⟨by rw[hmc];simp[hrll],Array.all_eq_true_iff_forall_mem.2 (fun v hv=>?_)⟩
    rw[hmc,List.mem_toArray] at hv
    rcases List.mem_append.1 hv with h|h
    ·simp only[List.mem_cons,List.not_mem_nil,or_false] at h
     rcases h with h|h|h|h|h|h|h|h <;> rw[h] <;> rfl
    ·rw[hrl] at h
     exact bv_one _ v h)
   have HMC:=Lib.hid (And.intro hmc hrl)
   have hM12:∀W,Below w12.drew.heap.size w12.drew W→W.heap[w.heap.size+1+1+1]? = some (.cells (metaC ⟨0,0,0,0,0⟩ 0 0 ⟨#[]⟩ ⟨#[]⟩ (List.replicate 32 0)).toArray 55 (0,0)):=fun W hW=>((bstep b12d hW).block _ (by rw[HA1.out];omega)).trans HM0.out
   have HMR:=Lib.hid hM12
   have HMZ:Hid ((metaC ⟨0,0,0,0,0⟩ 0 0 ⟨#[]⟩ ⟨#[]⟩ (List.replicate 32 0)).toArray.size=40):=Lib.hid (by rfl)
   have hPl12:=(hw12.on (bdrew (bself w12))).lt
   have hwA:=b12d.size
   have hwa:=HA1.out
   have KS:Hid (∀W,Below w12.drew.heap.size w12.drew W→(W.cell? ⟨w.heap.size+1,1,none⟩=some (.int .u8 (h.lv:Int))∧W.cell? ⟨w.heap.size+1,2,none⟩=some (.int .u64 (h.g:Int))∧W.cell? ⟨w.heap.size+1,3,none⟩=some (.int .u64 (h.e:Int))∧W.cell? ⟨w.heap.size+1,4,none⟩=some (.int .u64 (h.n:Int)))∧W.cell? ⟨b,o,none⟩=some (.string mn)∧W.cell? ⟨b,o+n1*4,none⟩=some (.string mx)∧W.cell? ⟨P,66,none⟩=some (.slice (some ⟨gL,0,none⟩) lv2.length cL)):=Lib.hid (fun W hW=>by
    have e1:∀k,W.cell? ⟨w.heap.size+1,k,none⟩=w12.drew.cell? ⟨w.heap.size+1,k,none⟩:=fun k=>hW.cell (by show w.heap.size+1<_;omega)
    have e2:∀k,W.cell? ⟨b,k,none⟩=w12.drew.cell? ⟨b,k,none⟩:=fun k=>hW.cell (by show b<_;omega)
    have e3:∀k,W.cell? ⟨P,k,none⟩=w12.drew.cell? ⟨P,k,none⟩:=fun k=>hW.cell hPl12
    exact⟨⟨(e1 1).trans i1,(e1 2).trans i2,(e1 3).trans i3,(e1 4).trans i4⟩,(e2 _).trans d0,(e2 _).trans dl,(e3 _).trans wc66⟩)
   have KS2:Hid (∀W,Below w12.drew.heap.size w12.drew W→((W.setRow (w.heap.size+1+1+1) mc).cell? ⟨w.heap.size+1,1,none⟩=some (.int .u8 (h.lv:Int))∧(W.setRow (w.heap.size+1+1+1) mc).cell? ⟨w.heap.size+1,2,none⟩=some (.int .u64 (h.g:Int))∧(W.setRow (w.heap.size+1+1+1) mc).cell? ⟨w.heap.size+1,3,none⟩=some (.int .u64 (h.e:Int))∧(W.setRow (w.heap.size+1+1+1) mc).cell? ⟨w.heap.size+1,4,none⟩=some (.int .u64 (h.n:Int)))∧(W.setRow (w.heap.size+1+1+1) mc).cell? ⟨b,o,none⟩=some (.string mn)∧(W.setRow (w.heap.size+1+1+1) mc).cell? ⟨b,o+n1*4,none⟩=some (.string mx)∧(W.setRow (w.heap.size+1+1+1) mc).cell? ⟨P,66,none⟩=some (.slice (some ⟨gL,0,none⟩) lv2.length cL)):=Lib.hid (fun W hW=>by
    have hP3:=(HNF.out (w.heap.size+1+1+1) (by omega)).2
    obtain⟨⟨a1,a2,a3,a4⟩,a5,a6,a7⟩:=KS.out W hW
    have e1:∀k,(W.setRow (w.heap.size+1+1+1) mc).cell? ⟨w.heap.size+1,k,none⟩=W.cell? ⟨w.heap.size+1,k,none⟩:=fun k=>cell_setRow_other W _ mc _ (by show w.heap.size+1≠_;omega)
    have e2:∀k,(W.setRow (w.heap.size+1+1+1) mc).cell? ⟨b,k,none⟩=W.cell? ⟨b,k,none⟩:=fun k=>cell_setRow_other W _ mc _ (by show b≠_;omega)
    have e3:∀k,(W.setRow (w.heap.size+1+1+1) mc).cell? ⟨P,k,none⟩=W.cell? ⟨P,k,none⟩:=fun k=>cell_setRow_other W _ mc _ hP3
    exact⟨⟨(e1 1).trans a1,(e1 2).trans a2,(e1 3).trans a3,(e1 4).trans a4⟩,(e2 _).trans a5,(e2 _).trans a6,(e3 _).trans a7⟩)
   have HNL:=Lib.hid (And.intro hn1 (And.intro hPl12 (And.intro hwA (And.intro hwa hzl))))
   clear hn1 hmn hmx hmc hrl hM12 hPl12 hwA hwa i1 i2 i3 i4 d0 dl wc66 hlv2l hlv2p hlv1l hout1l hbig hT0 hTl hw12
   have hne0:(0:Int)<(l.length:Int):=by omega
   refine wp_region_noPanic ?_
   refine wp_region_held_drew (S:=fun W=>True∧(W.cell? ⟨w.heap.size+1,1,none⟩=some (.int .u8 (h.lv:Int))∧W.cell? ⟨w.heap.size+1,2,none⟩=some (.int .u64 (h.g:Int))∧W.cell? ⟨w.heap.size+1,3,none⟩=some (.int .u64 (h.e:Int))∧W.cell? ⟨w.heap.size+1,4,none⟩=some (.int .u64 (h.n:Int)))∧W.cell? ⟨b,o,none⟩=some (.string mn)∧W.cell? ⟨b,o+n1*4,none⟩=some (.string mx)∧W.cell? ⟨P,66,none⟩=some (.slice (some ⟨gL,0,none⟩) lv2.length cL)) (by kernel_rfl) ⟨trivial,KS.out _ (bself _)⟩ (fun hHeld=>?_)
   have HTAB:Hid (tabB K ad ev (blk:Int) l F0=tB∧tabL K ad ev (blk:Int) l F0=lv2):=Lib.hid (by
    have eF:tabF K ad F0=FF:=HFF.out.symm
    have eI:tabI K ad ev (blk:Int) l F0=II:=by
     unfold tabI indexB
     rw[HPS.out.1,HPS.out.2,eF,←HO0.out.2.2,←HIX.out,←HI0.out.1,←HI0.out.2]
    refine⟨?_,?_⟩
    ·unfold tabB tableB
     rw[eI,eF,HPS.out.1,HTB.out,HO2.out.1,HO1.out.1,HO0.out.1,HO2.out.2.2.2]
    ·unfold tabL
     rw[eI,eF,HPS.out.1,HO2.out.2.1,HO1.out.2.1,HO0.out.2.1]
     simp[List.append_assoc])
   have HFIN:Hid (∀W,Below w12.drew.heap.size w12.drew W→OB (W.setRow (w.heap.size+1+1+1) mc) w.heap.size (.slice (some ⟨g12,0,none⟩) tB.length c12) tB∧Below w.heap.size w (W.setRow (w.heap.size+1+1+1) mc)∧(W.setRow (w.heap.size+1+1+1) mc).heap[w.heap.size+1+1+1]? = some (.cells mc 55 (0,0))):=Lib.hid (fun W hW=>by
    have hW':=bstep (bdrew (bself w12)) hW
    have hfin:=HB0.out _ (bstep b12d hW)
    have hne3:(Value.slice (some ⟨g12,0,none⟩) tB.length c12).ownBlock≠some (w.heap.size+1+1+1):=by
     intro e
     injection e with e
     exact (HNF.out (w.heap.size+1+1+1) (by omega)).1 e
    have hzw:w.heap.size≤w11.drew.heap.size:=Nat.le_trans (by rw[HA1.out];omega) b11d.size
    refine⟨OB.grown ((HO12.out.below hW' (Nat.le_refl _)).rebase hzw) (row:=some (w.heap.size+1+1+1)) ⟨rfl,rfl,rfl,by simp,fun k _ hk=>setRow_other W _ k mc (fun e=>hk (by rw[e]))⟩ (Or.inr hne3),below_setRow hfin (by omega) _,setRow_heap _ _ _ _ _ _ (HMR.out _ hW)⟩)
   have HRET:Hid (∀w':World,OB w' w.heap.size (.slice (some ⟨g12,0,none⟩) tB.length c12) tB→Below w.heap.size w w'→∃r filt,Ending.returned (.tuple #[.slice (some ⟨g12,0,none⟩) tB.length c12,.agg mc,.int .i64 0])=.returned (.tuple #[r,metaV h (tabB K ad ev (blk:Int) l filt).length l.length (l.getD 0 ent0).user (l.getD (l.length-1) ent0).user (rootR jnD zD (tabL K ad ev (blk:Int) l filt)).1,.int .i64 0])∧FiltOk filt l∧OB w' w.heap.size r (tabB K ad ev (blk:Int) l filt)∧Below w.heap.size w w'):=Lib.hid (fun w' ho hb=>by
    refine⟨.slice (some ⟨g12,0,none⟩) tB.length c12,F0,?_,HFO.out,?_,hb⟩
    ·rw[HTAB.out.1,HTAB.out.2,←HMN.out.1,←HMN.out.2]
     unfold metaV metaC
     rw[←HMC.out.2,←HMC.out.1]
    ·rw[HTAB.out.1]
     exact ho)
   refine rtk 0 ?_
   refine rtk 1 ?_
   refine rtk 2 ?_
   refine rtk 3 ?_
   refine rtk 4 ?_
   refine rtk 5 ?_
   refine rtk 6 ?_
   refine rtk 7 ?_
   refine rtk 8 ?_
   refine rtk 9 ?_
   refine rtk 10 ?_
   refine rtk 11 ?_
   refine rtk 12 ?_
   refine rtk 13 ?_
   refine rtk 14 ?_
   refine rtk 15 ?_
   refine rtk 16 ?_
   refine rtk 17 ?_
   refine rtk 18 ?_
   refine rtk 19 ?_
   refine rtk 20 ?_
   refine rtk 21 ?_
   refine rtk 22 ?_
   refine rtk 23 ?_
   refine rtk 24 ?_
   refine rtk 25 ?_
   refine rtk 26 ?_
   refine rtk 27 ?_
   refine ro 28 (fun K hK=>?_)
   (go_simp;go_at_call 61;refine (HRoot.out _ (bself _)).mono ?_;rintro _ w13 ⟨rfl,hb13⟩;go_wp2_with fail)
   refine hK.out _ _ ?_ (fun hHeld=>?_)
   ·exact⟨trivial,KS.out _ hb13⟩
   clear hK K
   try simp only[Act.put,q1,q2,q3]
   refine reg_take 29 (v:=.agg mc) (by rfl) (by kernel_rfl) (by kernel_rfl) (by kernel_rfl) (fun _ _ _ h=>h) (by rfl) ?_ (by assumption) ?_
   ·(intro wq hSq;(rw[HMC.out.1];exact exec_buildMeta (.tmp 189) (.tmp 191) (.tmp 193) (.tmp 195) (.tmp 197) (.tmp 199) (.tmp 203) (.tmp 210) (.tmp 215) rfl _ _ _ _ _ _ _ _ rl hrll (by intro v hv;simp only[List.mem_cons,List.not_mem_nil,or_false] at hv;rcases hv with hv|hv|hv|hv|hv|hv|hv|hv <;> rw[hv] <;> rfl) rfl rfl rfl rfl rfl rfl rfl rfl rfl))
   try simp only[Act.put,q1,q2,q3]
   refine rtk 30 ?_
   refine ro 31 (fun K hK=>?_)
   (refine wp_storeR 55 (.tmp 9) (.tmp 216) rfl (w.heap.size+1+1+1) rfl _ mc rfl (HMR.out _ hb13) (by rw[HMS.out.1];kernel_rfl) (by rw[HMZ.out,HMS.out.1]) HMS.out.2 ?_)
   refine hK.out _ _ ?_ (fun hHeld=>?_)
   ·exact⟨trivial,KS2.out _ hb13⟩
   clear hK K
   try simp only[Act.put]
   refine rtk 32 ?_
   refine rdn ?_
   go_wp2_with fail
   exact bodyPost_ret (v:=.tuple #[.slice (some ⟨g12,0,none⟩) tB.length c12,.agg mc,.int .i64 0]) (results_tct Tryz.results17 _ _ (w.heap.size+1+1+1) 55 mc (0,0) _ rfl (HFIN.out _ hb13).2.2 Tryz.underlying55 rfl (by rw[HMS.out.1];kernel_rfl)) rfl (HRET.out _ (HFIN.out _ hb13).1 (HFIN.out _ hb13).2.1)
end Go.Proofs.YtchjknbideoieaaGreatDoor
namespace Go.Proofs.YtchjknbideoieaaGreatDoor
set_option maxRecDepth 100000
set_option maxHeartbeats 8000000
open Go.RowKit Go.Great Go.Proofs
abbrev Pr:=Value × List Ent
def prC (x:Pr):List Value:=[x.1]
theorem prC_length (x:Pr):(prC x).length=1:=rfl
theorem prC_flat (l:List Pr):(l.flatMap prC).length=l.length:=by rw[flat_length prC 1 prC_length];omega
theorem infoSl:(Tryz.prog.info? 22).map (fun i=>(i.zero,i.size,i.bytes))=some (some (.slice none 0 0),1,24):=by kernel_rfl
structure OL (w:World) (base:Nat) (v:Value) (P:List Pr):Prop where
 o:OG 22 prC 1 w base v P
 i:∀p∈P,OE w base p.1 p.2
 a:P.Pairwise (fun p q=>Ap p.1 q.1)
 t:∀p∈P,Ap v p.1
theorem OG.put1 {α:Type} {f:α→List Value} {w:World} {base g n k:Nat} {t:TypeId} {l:List α} {x y:α} {u:Value} (h:OG t f 1 w base (.slice (some ⟨g,0,none⟩) n k) (l++[x])) (hl:(l.flatMap f).length=l.length) (hx:(f x).length=1) (hy:f y=[u]) :
  OG t f 1 (w.setCell ⟨g,l.length,none⟩ u) base (.slice (some ⟨g,0,none⟩) n k) (l++[y]):=by
 obtain⟨h1,h2⟩:=h
 rcases h2 with ⟨e,_⟩|⟨g',cap,cur,e1,e2,e3,e4,e5,e6,e7⟩
 ·cases e
 ·injection e1 with e11 e12 e13
  injection e11 with e11
  injection e11 with e11
  subst e11
  refine⟨by simp[hl,hy],.inr ⟨g,cap,cur.setIfInBounds l.length u,by simp[e12,e13],e2,?_,by simpa using e4,e5,by simp[e6],?_⟩⟩
  ·simp only[World.setCell,Array.getElem?_modify,e3]
   simp
  ·rw[Array.toList_setIfInBounds,List.take_set]
   simp only[List.length_append,List.length_cons,List.length_nil,List.flatMap_append,List.flatMap_cons,List.flatMap_nil,List.append_nil] at e7 ⊢
   rw[e7]
   rw[List.set_append_right _ _ (by omega),hl,Nat.sub_self]
   obtain⟨z,hz⟩:=List.length_eq_one_iff.1 hx
   rw[hz,hy]
   rfl
theorem Ap.nil_ (u:Value):Ap u (.slice none 0 0):=by
 rcases hv:u.ownBlock with _|j
 ·exact .inl hv
 ·exact .inr (by rw[hv];simp[Value.ownBlock])
theorem fs_of {w:World} {v v':Value} {n:Nat} (h:v'.ownBlock=v.ownBlock∨v'.ownBlock=some n) (hn:w.heap.size≤n):FS w.heap.size v v':=h.imp id fun e=>⟨n,e,hn⟩
theorem OL.nil_ (w:World) (base:Nat):OL w base (.slice none 0 0) []:=⟨OG.nil_ _ _ _ w base,fun p hp=>by (cases hp),List.Pairwise.nil,fun p hp=>by (cases hp)⟩
theorem OL.on {w w':World} {B base:Nat} {v:Value} {P:List Pr} (h:OL w base v P) (hb:Below B w w') (hB:w.heap.size≤B):OL w' base v P :=
 ⟨h.o.below hb hB,fun p hp=>(h.i p hp).below hb hB,h.a,h.t⟩
theorem fzS_row {w:World} {g:Nat} {c:Array Value} {t:TypeId} (h:w.heap[g]? = some (.cells c t (0,0))) (k:Nat):w.frozen? ⟨g,k,none⟩=false:=by simp[World.frozen?,h]
theorem OL.push {w w':World} {base n:Nat} {v v':Value} {P:List Pr} (h:OL w base v P) (ho:OG 22 prC 1 w' base v' (P++[(.slice none 0 0,[])])) (hg:w.grownBy w' v.ownBlock) (hf:v'.ownBlock=v.ownBlock∨v'.ownBlock=some n) (hn:w.heap.size≤n):OL w' base v' (P++[(.slice none 0 0,[])]):=by
 refine⟨ho,fun p hp=>?_,?_,fun p hp=>?_⟩
 ·rcases List.mem_append.1 hp with hp|hp
  ·exact (h.i p hp).grown hg (Ap.symm (h.t p hp))
  ·rw[List.mem_singleton.1 hp];exact OE.nil_ _ _
 ·rw[List.pairwise_append]
  refine⟨h.a,List.pairwise_singleton _ _,fun a _ b hb=>?_⟩
  rw[List.mem_singleton.1 hb];exact Ap.nil_ _
 ·rcases List.mem_append.1 hp with hp|hp
  ·exact (h.t p hp).left (fun k hk=>((h.i p hp).lt k hk).2) (fs_of hf hn)
  ·rw[List.mem_singleton.1 hp];exact Ap.nil_ _
theorem OL.last {w w1:World} {base g n k:Nat} {u u':Value} {P:List Pr} {t t':List Ent} (h:OL w base (.slice (some ⟨g,0,none⟩) n k) (P++[(u,t)])) (ho:OE w1 base u' t') (hg:w.grownBy w1 u.ownBlock) (hf:u'.ownBlock=u.ownBlock∨u'.ownBlock=some w.heap.size) :
  OL (w1.setCell ⟨g,P.length,none⟩ u') base (.slice (some ⟨g,0,none⟩) n k) (P++[(u',t')]):=by
 have hin:(u,t)∈P++[(u,t)]:=by simp
 have hgs:∀W:World,W.grownBy (W.setCell ⟨g,P.length,none⟩ u') (some g):=fun W=>grown_set W rfl u'
 have hap:Ap (.slice (some ⟨g,0,none⟩) n k) u':=(h.t _ hin).right (n:=w.heap.size) (fun j hj=>(h.o.lt j hj).2) (fs_of hf (Nat.le_refl _))
 have hpa:=List.pairwise_append.1 h.a
 have hl1:∀p∈P,Ap p.1 u:=fun p hp=>hpa.2.2 p hp (u,t) (by simp)
 refine⟨?_,fun p hp=>?_,?_,fun p hp=>?_⟩
 ·exact OG.put1 (h.o.grown hg (h.t _ hin)) (prC_flat P) rfl rfl
 ·rcases List.mem_append.1 hp with hp|hp
  ·refine ((h.i p (List.mem_append_left _ hp)).grown hg (hl1 p hp)).grown (hgs w1) (Ap.symm (h.t p (List.mem_append_left _ hp)))
  ·rw[List.mem_singleton.1 hp];exact ho.grown (hgs w1) (Ap.symm hap)
 ·rw[List.pairwise_append]
  refine⟨hpa.1,List.pairwise_singleton _ _,fun a ha b hb=>?_⟩
  rw[List.mem_singleton.1 hb]
  exact (hl1 a ha).right (n:=w.heap.size) (fun j hj=>((h.i a (List.mem_append_left _ ha)).lt j hj).2) (fs_of hf (Nat.le_refl _))
 ·rcases List.mem_append.1 hp with hp|hp
  ·exact h.t p (List.mem_append_left _ hp)
  ·rw[List.mem_singleton.1 hp];exact hap
def stepS (most:Int) (o:List (List Ent)) (room:Int) (p:List Ent):List (List Ent) × Int :=
 if o=[]∨room<(countE p:Int) then (o++[p],max most 1-min (max most 1) (countE p)) else (o.dropLast++[o.getLastD []++p],room-min room (countE p))
def foldS (most:Int):List (List Ent)→Int→List (List Ent)→List (List Ent)
 | o,_,[]=>o
 | o,room,p::gs=>foldS most (stepS most o room p).1 (stepS most o room p).2 gs
theorem foldS_go (most:Int):∀gs o t room,foldS most (o++[t]) room gs=splitGo most o t room gs
 | [],o,t,room=>rfl
 | p::gs,o,t,room=>by
  rw[foldS,splitGo,stepS]
  by_cases h:room<(countE p:Int)
  ·rw[if_pos (.inr h),if_pos h]
   exact foldS_go most gs (o++[t]) p _
  ·rw[if_neg (by simp[h]),if_neg h]
   simp only[List.dropLast_concat,List.getLastD_concat]
   exact foldS_go most gs o (t++p) _
theorem foldS_split (most r:Int) (gs:List (List Ent)):foldS most [] r gs=splitG most gs:=by
 cases gs with
 | nil=>rfl
 | cons p gs =>
  rw[foldS,splitG,stepS,if_pos (.inl rfl)]
  exact foldS_go most gs [] p _
theorem stepS_new {most room:Int} {o:List (List Ent)} {p:List Ent} (h:o=[]∨room<(countE p:Int)):stepS most o room p=(o++[[]++p],max most 1-min (max most 1) (countE p)):=by rw[stepS,if_pos h];rfl
theorem stepS_on {most room:Int} {o:List (List Ent)} {t p:List Ent} (h:¬room<(countE p:Int)):stepS most (o++[t]) room p=(o++[t++p],room-min room (countE p)):=by
 rw[stepS,if_neg (by simp[h])]
 simp
structure SpAt (w:World) (B0 bm:Nat) (vo:Value) (P:List Pr) (room most:Int):Prop where
 hM:bm<B0
 rM:w.heap[bm]? = some (.cells #[.int .i64 most] 3 (0,0))
 rO:w.heap[B0]? = some (.cells #[vo] 60 (0,0))
 rR:w.heap[B0+1]? = some (.cells #[.int .i64 room] 3 (0,0))
 ol:OL w (B0+1+1) vo P
theorem SpAt.on {w w':World} {B0 bm:Nat} {vo:Value} {P:List Pr} {room most:Int} (h:SpAt w B0 bm vo P room most) (hb:Below w.heap.size w w'):SpAt w' B0 bm vo P room most :=
 ⟨h.hM,(hb.block _ (Array.getElem?_eq_some_iff.1 h.rM).1).trans h.rM,(hb.block _ (Array.getElem?_eq_some_iff.1 h.rO).1).trans h.rO,(hb.block _ (Array.getElem?_eq_some_iff.1 h.rR).1).trans h.rR,h.ol.on hb (Nat.le_refl _)⟩
theorem OL.low {w:World} {base:Nat} {v u:Value} {P:List Pr} {p:Addr} (h:OL w base v P) (hp:p.block<base):OL (w.setCell p u) base v P:=by
 have hne:∀{x:Value},(∀k,x.ownBlock=some k→base≤k∧k<w.heap.size)→x.ownBlock=none∨x.ownBlock≠some p.block:=fun {x} hx=>by
  rcases e:x.ownBlock with _|j
  ·exact .inl rfl
  ·refine .inr fun e2=>?_
   injection e2 with e2
   have:=(hx j e).1
   omega
 exact⟨h.o.grown (grown_set w rfl u) (hne h.o.lt),fun q hq=>(h.i q hq).grown (grown_set w rfl u) (hne (h.i q hq).lt),h.a,h.t⟩
theorem OL.formP {w:World} {base:Nat} {v:Value} {P:List Pr} {x:Pr} (h:OL w base v (P++[x])):∃g k,v=.slice (some ⟨g,0,none⟩) (P.length+1) k∧base≤g∧g<w.heap.size:=by
 obtain⟨g,k,e⟩:=h.o.form0 (by simp)
 refine⟨g,k,by simpa using e,?_⟩
 exact h.o.lt g (by rw[e];rfl)
theorem SpAt.setO {w w':World} {B0 bm:Nat} {vo v':Value} {P P':List Pr} {room most:Int} (h:SpAt w B0 bm vo P room most) (hb:Below (B0+1+1) w w') (ho:OL w' (B0+1+1) v' P'):SpAt (w'.setCell ⟨B0,0,none⟩ v') B0 bm v' P' room most:=by
 have r1:=(hb.block _ (by omega)).trans h.rO
 have hM:=h.hM
 refine⟨hM,(Below.heap_setCell _ _ _ _ (by show bm≠B0;omega)).trans ((hb.block _ (by omega)).trans h.rM),?_,(Below.heap_setCell _ _ _ _ (by show B0+1≠B0;omega)).trans ((hb.block _ (by omega)).trans h.rR),ho.low (by show B0<B0+1+1;omega)⟩
 simp only[World.setCell,Array.getElem?_modify,r1]
 simp
theorem SpAt.setR {w:World} {B0 bm:Nat} {vo:Value} {P:List Pr} {room most:Int} (h:SpAt w B0 bm vo P room most) (r:Int):SpAt (w.setCell ⟨B0+1,0,none⟩ (.int .i64 r)) B0 bm vo P r most:=by
 have hM:=h.hM
 refine⟨hM,(Below.heap_setCell _ _ _ _ (by show bm≠B0+1;omega)).trans h.rM,(Below.heap_setCell _ _ _ _ (by show B0≠B0+1;omega)).trans h.rO,?_,h.ol.low (by show B0+1<B0+1+1;omega)⟩
 simp only[World.setCell,Array.getElem?_modify,h.rR]
 simp
theorem SpAt.setL {w w1:World} {B0 bm g n k:Nat} {u u':Value} {P:List Pr} {t t':List Ent} {room most:Int} (h:SpAt w B0 bm (.slice (some ⟨g,0,none⟩) n k) (P++[(u,t)]) room most) (ho:OE w1 (B0+1+1) u' t') (hg:w.grownBy w1 u.ownBlock) (hf:u'.ownBlock=u.ownBlock∨u'.ownBlock=some w.heap.size) (hb:Below (B0+1+1) w w1) :
  SpAt (w1.setCell ⟨g,P.length,none⟩ u') B0 bm (.slice (some ⟨g,0,none⟩) n k) (P++[(u',t')]) room most:=by
 have hgl:=h.ol.o.lt g rfl
 have hb2:=hb.setCell (p:=⟨g,P.length,none⟩) hgl.1 u'
 have hM:=h.hM
 exact⟨hM,(hb2.block _ (by omega)).trans h.rM,(hb2.block _ (by omega)).trans h.rO,(hb2.block _ (by omega)).trans h.rR,h.ol.last ho hg hf⟩
theorem OL.cellLast {w:World} {base g n k:Nat} {u:Value} {P:List Pr} {t:List Ent} (h:OL w base (.slice (some ⟨g,0,none⟩) n k) (P++[(u,t)])):w.cell? ⟨g,P.length,none⟩=some u:=by
 obtain⟨b,o,k',e,hb,hr⟩:=h.o.sg.at_ prC_length (by simp)
 injection e with e1 _ _
 injection e1 with e1
 injection e1 with e1 e2
 subst e1;subst e2
 have:=hr P.length (by simp) 0 u (by simp[prC])
 simpa using this
theorem OE.formP {w:World} {base:Nat} {v:Value} {l:List Ent} (h:OE w base v l) (hl:0<l.length):∃g k,v=.slice (some ⟨g,0,none⟩) l.length k:=by
 obtain⟨_,h2⟩:=h
 rcases h2 with ⟨_,e⟩|⟨g',cap,cur,e1,_⟩
 ·omega
 ·exact⟨g',cap,e1⟩
theorem grown_cell {w w1:World} {row:Option Nat} (hg:w.grownBy w1 row) {g:Nat} (hl:g<w.heap.size) (hne:some g≠row) (k:Nat):w1.cell? ⟨g,k,none⟩=w.cell? ⟨g,k,none⟩∧w1.frozen? ⟨g,k,none⟩=w.frozen? ⟨g,k,none⟩:=by
 have h:=hg.block g hl hne
 exact⟨World.cell?_of_block (a:=⟨g,k,none⟩) h,by simp only[World.frozen?,h]⟩
theorem OL.frz {w:World} {base g n k:Nat} {P:List Pr} (h:OL w base (.slice (some ⟨g,0,none⟩) n k) P) (j:Nat):w.frozen? ⟨g,j,none⟩=false:=by
 obtain⟨_,h2⟩:=h.o
 rcases h2 with ⟨e,_⟩|⟨g',cap,cur,e1,_,e3,_⟩
 ·cases e
 ·injection e1 with e1 _ _
  injection e1 with e1
  injection e1 with e1 _
  subst e1
  exact fzS_row e3 j
section
variable {ops:Array Oper} {rest:List Oper} {o:Oper} {a:Act} {Q:Exit→Act→World→Prop} {w:World}
theorem wl_push (hgd:Region.wanted o (yielded ops a.tmps)=true) (s x:Operand)
  (ho:o.op=.call { callee:=.builtin .append,args:=#[s,x],argTypes:=#[60,60] })
  (base:Nat) (v:Value) (P:List Pr) (hs:a.eval s=v) (hown:OL w base v P) {g:Nat} (hg:g=w.heap.size) (hx:a.eval x=.slice (some ⟨g,0,none⟩) 1 1) (hlen:P.length≤1000000) (hbase:base≤w.heap.size)
  (h:∀v' w',OL w' base v' (P++[(.slice none 0 0,[])])→w.grownBy w' v.ownBlock→Below base w w'→wpList Tryz.prog ops Q rest (a.put o.dst v') w'):wpList Tryz.prog ops Q (o::rest) a (w.alloc (.cells #[.slice none 0 0] 22)):=by
 refine wl_of hgd fun K hK=>wp_appG 60 22 (.slice none 0 0) 24 infoSl Tryz.underlying60 rfl (by omega) s x ho base v P hs (hown.o.alloc _) (w.heap.size+1) _ [(.slice none 0 0,[])] (fun x hx u hu=>by rw[List.mem_singleton.1 hx] at hu;rw[List.mem_singleton.1 hu];rfl) hx (SG.new1 w prC 1 22 (.slice none 0 0,[]) rfl hg (by omega)) (by simp[maxLen];omega) (by simp;omega) (by simp;omega) fun v' w' h1 h2 h3 h4=>hK _ _ (h v' w' ?_ ((World.grownBy_alloc w _ _).trans h2) (((Below.refl _ _).alloc hbase _).trans h4))
 refine hown.push h1 ((World.grownBy_alloc w _ _).trans h2) h3 (by simp)
end
def ToldPost (w:World) (B0 bm:Nat) (most:Int) (T:List (List Ent) × Int) (e:Ending) (w':World):Prop:=e=.returned (.tuple #[])∧∃vo' P',SpAt w' B0 bm vo' P' T.2 most∧P'.map (·.2)=T.1∧Below B0 w w'
theorem countE_bound (l:List Ent) (h:∀e∈l,e.user.size≤1048576∧e.value.size≤1048576):countE l≤l.length*2097160:=by
 have h2:∀l:List Ent,(∀e∈l,e.user.size≤1048576∧e.value.size≤1048576)→(l.map fun e=>e.user.size+e.value.size).sum≤l.length*2097152:=by
  intro l
  induction l with
  | nil=>intro _;simp
  | cons a l ih =>
   intro h
   have h1:=h a (by simp)
   have h3:=ih fun x hx=>h x (by simp[hx])
   rw[List.map_cons,List.sum_cons,List.length_cons]
   omega
 have h3:=h2 l h
 unfold countE
 omega
theorem kTold_any (part:List Ent) (vp vo:Value) (P:List Pr) (room most:Int) (B0 bm:Nat) (w:World) (h:SpAt w B0 bm vo P room most) (hp:SE w B0 vp part) (hpl:part.length≤1000) (hpl0:0<part.length) (hz:∀e∈part,e.user.size≤1048576∧e.value.size≤1048576)
  (hroom:0≤room∧room≤1000000) (hmost:0≤most∧most≤1000000) (hP:P.length≤100000) (hPs:∀p∈P,p.2.length≤100000) :
  Calls Tryz.prog 64 #[vp,.pointer (some ⟨B0,0,none⟩),.pointer (some ⟨B0+1,0,none⟩),.pointer (some ⟨bm,0,none⟩)] w (ToldPost w B0 bm most (stepS most (P.map (·.2)) room part)):=by
 obtain⟨T,hT⟩:∃T,T=stepS most (P.map (·.2)) room part:=⟨_,rfl⟩
 rw[←hT]
 obtain⟨cn,hcn⟩:∃cn:Nat,cn=countE part:=⟨_,rfl⟩
 have hlO:=(Array.getElem?_eq_some_iff.1 h.rO).1
 have hlR:=(Array.getElem?_eq_some_iff.1 h.rR).1
 have HC:Hid (Calls Tryz.prog 65 #[vp] w fun e w'=>e=.returned (.int .i64 (cn:Int))∧Below w.heap.size w w'):=Lib.hid (by rw[hcn];exact kCount_any vp part w (hp.more (by omega)) (by omega) hz)
 have hpf:∃A k,vp=.slice A part.length k:=by obtain⟨A,k,e,_⟩:=hp;exact⟨A,k,e⟩
 obtain⟨Ap',kp,rfl⟩:=hpf
 obtain⟨Ao,ko,rfl,hko,hkm⟩:=h.ol.o.sg.form
 have HSP:=Lib.hid h
 have HPP:=Lib.hid hp
 obtain⟨pn,hpn⟩:∃pn,pn=P.length:=⟨_,rfl⟩
 rw[←hpn] at HSP hko
 obtain⟨L,hL⟩:∃L,L=part.length:=⟨_,rfl⟩
 rw[←hL] at HPP HC ⊢
 have HLL:=Lib.hid (And.intro hpn (And.intro hL hcn))
 have hcn1:cn≤3000000000:=by
  have:=countE_bound part (fun e he=>hz e he)
  omega
 rw[show T=T from rfl] at hT
 have HT0:=Lib.hid hT
 clear h hp hL hpn hcn hT
 go_enter Tryz.func64,Tryz.ntmps64
 go_upto_region 1 with (go_at_call 65;refine HC.out.mono ?_;rintro _ w1 ⟨rfl,hb1⟩)
 have hS1:=HSP.out.on hb1
 have cM:=cell_of_row _ _ 0 _ _ _ hS1.rM
 have cO:=cell_of_row _ _ 0 _ _ _ hS1.rO
 have cR:=cell_of_row _ _ 0 _ _ _ hS1.rR
 have HS1:=Lib.hid hS1
 have z1:=hb1.size
 clear hS1 HC
 by_cases hnew:P=[]∨room<(cn:Int)
 ·have HT:Hid (T=(P.map (·.2)++[[]++part],max most 1-min (max most 1) (cn:Int))):=Lib.hid (by rw[HT0.out,HLL.out.2.2];exact stepS_new (by rw[←HLL.out.2.2];simpa using hnew))
  by_cases h0:P=[]
  ·have e0:((pn:Int)==0)=true:=by rw[HLL.out.1,h0];rfl
   clear hnew h0
   go_upto_region 3 with (at_builtin;refine wl_push rfl (.tmp 17) (.tmp 18) rfl (B0+1+1) _ P rfl HS1.out.ol rfl rfl (by omega) (by omega) ?_;intro v2 w2 ho2 hg2 hb2;obtain⟨g2,k2,rfl,hlg2,hlg2'⟩:=ho2.formP;rw[←HLL.out.1];have HO2:=Lib.hid ho2;have r2:=(hb2.block (B0) (by omega)).trans HS1.out.rO;have fz2:=fzS_row r2 0;have cz2:=cell_of_row _ _ 0 _ _ _ r2)
   have hS2:=HS1.out.setO hb2 HO2.out
   rw[←HLL.out.1] at hS2
   have bw2:Below B0 w (World.setCell w2 ⟨B0,0,none⟩ (.slice (some ⟨g2,0,none⟩) (pn+1) k2)):=((hb1.mono (by omega)).trans (hb2.mono (by omega))).setCell (by show B0≤B0;omega) _
   generalize World.setCell w2 _ _=w3 at hS2 bw2 ⊢
   have cM3:=cell_of_row _ _ 0 _ _ _ hS2.rM
   have fR3:=fzS_row hS2.rR 0
   have cR3:=cell_of_row _ _ 0 _ _ _ hS2.rR
   go_upto_region 4 with fail
   have hS3:=hS2.setR (max most 1)
   have bw3:=bw2.setCell (p:=⟨B0+1,0,none⟩) (by show B0≤B0+1;omega) (.int .i64 (max most 1))
   generalize World.setCell w3 _ _=w4 at hS3 bw3 ⊢
   clear hS2 cM3 fR3 cR3 cM cO cR bw2 hg2 hb2 HO2 r2 fz2 cz2
   obtain⟨rm,hrm⟩:∃rm:Int,rm=max most 1:=⟨_,rfl⟩
   have hrm1:0≤rm∧rm≤1000000:=by omega
   rw[←hrm] at hS3 HT
   have HRM:=Lib.hid hrm
   clear hrm
   have hS:=hS3
   have bw4:=bw3
   clear hS3 bw3 ho2
   have hpl0:=HLL.out.1
   have HPL:=Lib.hid hpl0
   clear hpl0
   have cO4:=cell_of_row _ _ 0 _ _ _ hS.rO
   have HS:=Lib.hid hS
   have gq:((pn+1:Nat):Int)-1=(pn:Int):=by omega
   have gqi:(pn:Int)+1-1=(pn:Int):=by omega
   have gqw:IntKind.i64.wrap (pn:Int)=(pn:Int):=by rw[IntKind.wrap_i64];omega
   have hqn:(pn:Int)<(pn:Int)+1:=by omega
   clear hS
   go_upto_region 5 with fail
   have cL:=HS.out.ol.cellLast
   have fL:=HS.out.ol.frz pn
   rw[←HPL.out] at cL
   have zL:=HS.out.ol.o.lt g2 rfl
   have HAp:=Lib.hid (HS.out.ol.t (.slice none 0 0,([]:List Ent)) (by simp))
   have hMx:(([]:List Ent)).length+part.length≤maxLen:=by unfold maxLen;first|omega|(simp;omega)
   have hFits:Fits (([]:List Ent)).length part.length 48:=Fits.of _ _ _ (by first|omega|(simp;omega))
   go_upto_region 6 with (at_builtin;refine wl_appEs rfl (.tmp 30) (.tmp 31) rfl (B0+1+1) (.slice none 0 0) ([]:List Ent) rfl (HS.out.ol.i (.slice none 0 0,([]:List Ent)) (by simp)) B0 _ part rfl (HPP.out.below bw4) hMx hFits (by omega) ?_;intro v5 w5 ho5 hg5 hf5 hb5;obtain⟨g5,k5,rfl⟩:=ho5.formP (by rw[List.length_append];omega);obtain⟨e5,e5'⟩:=grown_cell hg5 zL.2 (by rcases HAp.out with h|h;cases h;exact h) pn;rw[cL] at e5;rw[fL] at e5';obtain⟨m5,hm5⟩:∃m5,m5=(([]:List Ent)++part).length:=⟨_,rfl⟩;rw[←hm5] at ho5 hf5 ⊢;have HM5:=Lib.hid hm5;clear hm5)
   have hS5:=HS.out.setL ho5 hg5 hf5 hb5
   have bw5:=(bw4.trans (hb5.mono (by omega))).setCell (p:=⟨g2,pn,none⟩) (by show B0≤g2;omega) (.slice (some ⟨g5,0,none⟩) m5 k5)
   rw[←HPL.out] at hS5
   generalize World.setCell w5 _ _=w6 at hS5 bw5 ⊢
   have cR6:=cell_of_row _ _ 0 _ _ _ hS5.rR
   have fR6:=fzS_row hS5.rR 0
   have gm:IntKind.i64.wrap (rm-min rm (cn:Int))=rm-min rm (cn:Int):=by rw[IntKind.wrap_i64];omega
   have hS6:=Lib.hid (hS5.setR (rm-min rm (cn:Int)))
   have bw6:=bw5.setCell (p:=⟨B0+1,0,none⟩) (by show B0≤B0+1;omega) (.int .i64 (rm-min rm (cn:Int)))
   clear hS5 bw5 ho5 hg5 hf5 hb5 e5 e5' cL fL gq gqi gqw
   go_wp2_with fail
   go_end0
   exact⟨rfl,_,_,by rw[HT.out];exact hS6.out,by rw[HT.out];simp,bw6⟩
  ·have e0:((pn:Int)==0)=false:=by rw[beq_eq_false_iff_ne,HLL.out.1];have:=List.length_pos_iff.2 h0;omega
   have e1:decide (room<(cn:Int))=true:=by rcases hnew with h|h;exact absurd h h0;simpa using h
   clear hnew h0
   go_upto_region 3 with (at_builtin;refine wl_push rfl (.tmp 17) (.tmp 18) rfl (B0+1+1) _ P rfl HS1.out.ol rfl rfl (by omega) (by omega) ?_;intro v2 w2 ho2 hg2 hb2;obtain⟨g2,k2,rfl,hlg2,hlg2'⟩:=ho2.formP;rw[←HLL.out.1];have HO2:=Lib.hid ho2;have r2:=(hb2.block (B0) (by omega)).trans HS1.out.rO;have fz2:=fzS_row r2 0;have cz2:=cell_of_row _ _ 0 _ _ _ r2)
   have hS2:=HS1.out.setO hb2 HO2.out
   rw[←HLL.out.1] at hS2
   have bw2:Below B0 w (World.setCell w2 ⟨B0,0,none⟩ (.slice (some ⟨g2,0,none⟩) (pn+1) k2)):=((hb1.mono (by omega)).trans (hb2.mono (by omega))).setCell (by show B0≤B0;omega) _
   generalize World.setCell w2 _ _=w3 at hS2 bw2 ⊢
   have cM3:=cell_of_row _ _ 0 _ _ _ hS2.rM
   have fR3:=fzS_row hS2.rR 0
   have cR3:=cell_of_row _ _ 0 _ _ _ hS2.rR
   go_upto_region 4 with fail
   have hS3:=hS2.setR (max most 1)
   have bw3:=bw2.setCell (p:=⟨B0+1,0,none⟩) (by show B0≤B0+1;omega) (.int .i64 (max most 1))
   generalize World.setCell w3 _ _=w4 at hS3 bw3 ⊢
   clear hS2 cM3 fR3 cR3 cM cO cR bw2 hg2 hb2 HO2 r2 fz2 cz2
   obtain⟨rm,hrm⟩:∃rm:Int,rm=max most 1:=⟨_,rfl⟩
   have hrm1:0≤rm∧rm≤1000000:=by omega
   rw[←hrm] at hS3 HT
   have HRM:=Lib.hid hrm
   clear hrm
   have hS:=hS3
   have bw4:=bw3
   clear hS3 bw3 ho2
   have hpl0:=HLL.out.1
   have HPL:=Lib.hid hpl0
   clear hpl0
   have cO4:=cell_of_row _ _ 0 _ _ _ hS.rO
   have HS:=Lib.hid hS
   have gq:((pn+1:Nat):Int)-1=(pn:Int):=by omega
   have gqi:(pn:Int)+1-1=(pn:Int):=by omega
   have gqw:IntKind.i64.wrap (pn:Int)=(pn:Int):=by rw[IntKind.wrap_i64];omega
   have hqn:(pn:Int)<(pn:Int)+1:=by omega
   clear hS
   go_upto_region 5 with fail
   have cL:=HS.out.ol.cellLast
   have fL:=HS.out.ol.frz pn
   rw[←HPL.out] at cL
   have zL:=HS.out.ol.o.lt g2 rfl
   have HAp:=Lib.hid (HS.out.ol.t (.slice none 0 0,([]:List Ent)) (by simp))
   have hMx:(([]:List Ent)).length+part.length≤maxLen:=by unfold maxLen;first|omega|(simp;omega)
   have hFits:Fits (([]:List Ent)).length part.length 48:=Fits.of _ _ _ (by first|omega|(simp;omega))
   go_upto_region 6 with (at_builtin;refine wl_appEs rfl (.tmp 30) (.tmp 31) rfl (B0+1+1) (.slice none 0 0) ([]:List Ent) rfl (HS.out.ol.i (.slice none 0 0,([]:List Ent)) (by simp)) B0 _ part rfl (HPP.out.below bw4) hMx hFits (by omega) ?_;intro v5 w5 ho5 hg5 hf5 hb5;obtain⟨g5,k5,rfl⟩:=ho5.formP (by rw[List.length_append];omega);obtain⟨e5,e5'⟩:=grown_cell hg5 zL.2 (by rcases HAp.out with h|h;cases h;exact h) pn;rw[cL] at e5;rw[fL] at e5';obtain⟨m5,hm5⟩:∃m5,m5=(([]:List Ent)++part).length:=⟨_,rfl⟩;rw[←hm5] at ho5 hf5 ⊢;have HM5:=Lib.hid hm5;clear hm5)
   have hS5:=HS.out.setL ho5 hg5 hf5 hb5
   have bw5:=(bw4.trans (hb5.mono (by omega))).setCell (p:=⟨g2,pn,none⟩) (by show B0≤g2;omega) (.slice (some ⟨g5,0,none⟩) m5 k5)
   rw[←HPL.out] at hS5
   generalize World.setCell w5 _ _=w6 at hS5 bw5 ⊢
   have cR6:=cell_of_row _ _ 0 _ _ _ hS5.rR
   have fR6:=fzS_row hS5.rR 0
   have gm:IntKind.i64.wrap (rm-min rm (cn:Int))=rm-min rm (cn:Int):=by rw[IntKind.wrap_i64];omega
   have hS6:=Lib.hid (hS5.setR (rm-min rm (cn:Int)))
   have bw6:=bw5.setCell (p:=⟨B0+1,0,none⟩) (by show B0≤B0+1;omega) (.int .i64 (rm-min rm (cn:Int)))
   clear hS5 bw5 ho5 hg5 hf5 hb5 e5 e5' cL fL gq gqi gqw
   go_wp2_with fail
   go_end0
   exact⟨rfl,_,_,by rw[HT.out];exact hS6.out,by rw[HT.out];simp,bw6⟩
 ·have e0:((pn:Int)==0)=false:=by rw[beq_eq_false_iff_ne,HLL.out.1];have:=List.length_pos_iff.2 (fun h=>hnew (.inl h));omega
  have e1:decide (room<(cn:Int))=false:=by simpa using fun h=>hnew (.inr h)
  have hPne:P≠[]:=fun h=>hnew (.inl h)
  have hlt:¬room<(cn:Int):=fun h=>hnew (.inr h)
  rcases List.eq_nil_or_concat P with h0|⟨P0,⟨u,t⟩,rfl⟩
  ·exact absurd h0 hPne
  ·rw[List.concat_eq_append] at *
   have HT:Hid (T=(P0.map (·.2)++[t++part],room-min room (cn:Int))):=Lib.hid (by rw[HT0.out,HLL.out.2.2];rw[List.map_append];exact stepS_on (by rw[←HLL.out.2.2];exact hlt))
   have hpn:=HLL.out.1
   have hS:=HS1.out
   obtain⟨g2,k2,e2,_,_⟩:=hS.ol.formP
   injection e2 with e2 e2' e2''
   subst e2;subst e2''
   obtain⟨qn,hqn⟩:∃qn,qn=P0.length:=⟨_,rfl⟩
   rw[←hqn] at e2'
   subst e2'
   have HQN:=Lib.hid hqn
   obtain⟨Au,ku,hu,_⟩:=(hS.ol.i (u,t) (by simp)).se
   dsimp only at hu
   subst hu
   obtain⟨tl,htl⟩:∃tl,tl=t.length:=⟨_,rfl⟩
   have ht5:=hPs (.slice Au t.length ku,t) (by simp)
   dsimp only at ht5
   rw[←htl] at hS
   have HTL:=Lib.hid htl
   have bw4:=hb1.mono (show B0≤w.heap.size by omega)
   clear hnew hPne hlt hpn hqn htl
   go_upto_region 4 with fail
   have cO4:=cell_of_row _ _ 0 _ _ _ hS.rO
   have HS:=Lib.hid hS
   have gq:((qn+1:Nat):Int)-1=(qn:Int):=by omega
   have gqi:(qn:Int)+1-1=(qn:Int):=by omega
   have gqw:IntKind.i64.wrap (qn:Int)=(qn:Int):=by rw[IntKind.wrap_i64];omega
   have hqn:(qn:Int)<(qn:Int)+1:=by omega
   clear hS
   go_upto_region 5 with fail
   have cL:=HS.out.ol.cellLast
   have fL:=HS.out.ol.frz qn
   rw[←HQN.out] at cL
   have zL:=HS.out.ol.o.lt g2 rfl
   have HAp:=Lib.hid (HS.out.ol.t (.slice Au tl ku,t) (by simp))
   have hMx:(t).length+part.length≤maxLen:=by unfold maxLen;first|omega|(simp;omega)
   have hFits:Fits (t).length part.length 48:=Fits.of _ _ _ (by first|omega|(simp;omega))
   go_upto_region 6 with (at_builtin;refine wl_appEs rfl (.tmp 30) (.tmp 31) rfl (B0+1+1) (.slice Au tl ku) t rfl (HS.out.ol.i (.slice Au tl ku,t) (by simp)) B0 _ part rfl (HPP.out.below bw4) hMx hFits (by omega) ?_;intro v5 w5 ho5 hg5 hf5 hb5;obtain⟨g5,k5,rfl⟩:=ho5.formP (by rw[List.length_append];omega);obtain⟨e5,e5'⟩:=grown_cell hg5 zL.2 (by rcases HAp.out with h|h;cases h;exact h) qn;rw[cL] at e5;rw[fL] at e5';obtain⟨m5,hm5⟩:∃m5,m5=(t++part).length:=⟨_,rfl⟩;rw[←hm5] at ho5 hf5 ⊢;have HM5:=Lib.hid hm5;clear hm5)
   have hS5:=HS.out.setL ho5 hg5 hf5 hb5
   have bw5:=(bw4.trans (hb5.mono (by omega))).setCell (p:=⟨g2,qn,none⟩) (by show B0≤g2;omega) (.slice (some ⟨g5,0,none⟩) m5 k5)
   rw[←HQN.out] at hS5
   generalize World.setCell w5 _ _=w6 at hS5 bw5 ⊢
   have cR6:=cell_of_row _ _ 0 _ _ _ hS5.rR
   have fR6:=fzS_row hS5.rR 0
   have gm:IntKind.i64.wrap (room-min room (cn:Int))=room-min room (cn:Int):=by rw[IntKind.wrap_i64];omega
   have hS6:=Lib.hid (hS5.setR (room-min room (cn:Int)))
   have bw6:=bw5.setCell (p:=⟨B0+1,0,none⟩) (by show B0≤B0+1;omega) (.int .i64 (room-min room (cn:Int)))
   clear hS5 bw5 ho5 hg5 hf5 hb5 e5 e5' cL fL gq gqi gqw
   go_wp2_with fail
   go_end0
   exact⟨rfl,_,_,by rw[HT.out];exact hS6.out,by rw[HT.out];simp,bw6⟩
theorem flat_mem_le {α:Type}:∀(L:List (List α)) (x:List α),x∈L→x.length≤L.flatten.length
 | [],_,h=>by cases h
 | a::L,x,h=>by
  rw[List.flatten_cons,List.length_append]
  rcases List.mem_cons.1 h with rfl|h
  ·omega
  ·have:=flat_mem_le L x h;omega
theorem stepS_flat (most room:Int) (o:List (List Ent)) (p:List Ent):(stepS most o room p).1.flatten=o.flatten++p:=by
 unfold stepS
 split
 ·simp
 ·rename_i h
  rcases List.eq_nil_or_concat o with h0|⟨o',t,rfl⟩
  ·exact absurd (.inl h0) h
  ·simp
theorem stepS_len (most room:Int) (o:List (List Ent)) (p:List Ent):(stepS most o room p).1.length≤o.length+1:=by
 unfold stepS
 split
 ·simp
 ·simp only[List.length_append,List.length_dropLast,List.length_cons,List.length_nil]
  omega
theorem stepS_room {most room:Int} {o:List (List Ent)} {p:List Ent} (h:0≤room∧room≤1000000) (hm:0≤most∧most≤1000000):0≤(stepS most o room p).2∧(stepS most o room p).2≤1000000:=by
 unfold stepS
 split <;> (dsimp only;omega)
theorem keyN_at (u:ByteArray):∀(l:List Ent) (k:Nat),k≤l.length→(∀j (h:j<l.length),j<k→l[j].user=u)→(∀h:k<l.length,¬l[k].user=u)→keyN u l=k
 | [],k,hk,_,_=>by simp at hk;subst hk;rfl
 | e::l,0,_,_,h2=>by
  have:=h2 (by simp)
  rw[List.getElem_cons_zero] at this
  rw[keyN,if_neg this]
 | e::l,k+1,hk,h1,h2=>by
  have h0:=h1 0 (by simp) (by omega)
  rw[List.getElem_cons_zero] at h0
  rw[keyN,if_pos h0,keyN_at u l k (by simpa using hk) (fun j hj hjk=>by have:=h1 (j+1) (by simpa using hj) (by omega);simpa using this) (fun h=>by have:=h2 (by simpa using h);simpa using this)]
def KeyI (most:Int) (l:List Ent) (rest:List Ent) (P:List Pr) (room:Int):Prop:=∃f,rest.length≤f∧foldS most (P.map (·.2)) room (groupsF f rest)=splitL most l
theorem KeyI.step {most:Int} {l rest:List Ent} {P P':List Pr} {room:Int} {k:Nat} (h:KeyI most l rest P room) (h0:0<k) (hk:k≤rest.length) (h1:∀j (h:j<rest.length),j<k→rest[j].user=(rest[0]'(by omega)).user) (h2:∀h:k<rest.length,¬rest[k].user=(rest[0]'(by omega)).user)
  (hP:P'.map (·.2)=(stepS most (P.map (·.2)) room (rest.take k)).1):KeyI most l (rest.drop k) P' (stepS most (P.map (·.2)) room (rest.take k)).2:=by
 obtain⟨f,hf,he⟩:=h
 cases rest with
 | nil=>simp at hk;omega
 | cons e t =>
  cases k with
  | zero=>omega
  | succ k =>
   cases f with
   | zero=>simp at hf
   | succ f =>
    simp only[List.length_cons,List.getElem_cons_zero] at hf hk h1 h2
    have hn:=keyN_at e.user t k (by omega) (fun j hj hjk=>by have:=h1 (j+1) (by omega) (by omega);simpa using this) (fun h=>by have:=h2 (by omega);simpa using this)
    refine⟨f,by simp only[List.length_drop,List.length_cons];omega,?_⟩
    rw[groupsF,foldS,hn] at he
    rw[hP,List.drop_succ_cons,List.take_succ_cons]
    rw[List.take_succ_cons] at hP
    exact he
def spLen:Value→Nat
 | .slice _ n _=>n
 | _=>0
def KeysPost (w:World) (B0 bm:Nat) (most:Int) (l:List Ent) (e:Ending) (w':World):Prop:=e=.returned (.tuple #[])∧∃vo' P' r,SpAt w' B0 bm vo' P' r most∧P'.map (·.2)=splitL most l∧Below B0 w w'
theorem kKeys_any (l:List Ent) (v vo:Value) (most:Int) (B0 bm:Nat) (w:World) (hv:SE w B0 v l) (h:SpAt w B0 bm vo [] 0 most) (hl:l.length≤1000) (hz:∀e∈l,e.user.size≤1048576∧e.value.size≤1048576) (hmost:0≤most∧most≤1000000) :
  Calls Tryz.prog 63 #[v,.func (.func 64) #[] #[.pointer (some ⟨B0,0,none⟩),.pointer (some ⟨B0+1,0,none⟩),.pointer (some ⟨bm,0,none⟩)]] w (KeysPost w B0 bm most l):=by
 have eg:∀args w,(callFunc 64 args).run Tryz.prog w=.ok (.enter 64 args) w:=enters_of Tryz.func64 (by kernel_rfl) rfl
 have HH:=Lib.hid h
 have HV:=Lib.hid hv
 have hB0:B0<w.heap.size:=(Array.getElem?_eq_some_iff.1 h.rO).1
 obtain⟨A,c,rfl,_⟩:=hv
 clear h
 go_enter Tryz.func63,Tryz.ntmps63
 go_wp2_with fail
 go_loopw [0] (fun sv wr=>∃(A:Option Addr) (c:Nat) (rest:List Ent) (vo:Value) (P:List Pr) (room:Int),sv=.slice A rest.length c∧Hid (SE wr B0 (.slice A rest.length c) rest)∧Hid (SpAt wr B0 bm vo P room most)∧Hid (KeyI most l rest P room)∧Hid (∀e∈rest,e.user.size≤1048576∧e.value.size≤1048576)∧0≤room∧room≤1000000∧P.length+rest.length≤1000∧(P.map (·.2)).flatten.length+rest.length≤1000∧Below B0 w wr) (fun sv _=>spLen sv)
 case atStart=>exact⟨A,c,l,vo,[],0,rfl,HV,HH,Lib.hid ⟨l.length,Nat.le_refl _,by rw[List.map_nil,foldS_split];rfl⟩,Lib.hid hz,by omega,by omega,by simpa using hl,by simpa using hl,Below.refl _ _⟩
 case round =>
  obtain⟨A,c,rest,vo,P,room,rfl,HSE,HSP,HKI,HZ,hr1,hr2,hl1,hl2,hbr⟩:=hrel
  obtain⟨n,hn⟩:∃n,n=rest.length:=⟨_,rfl⟩
  rw[←hn] at HSE hl1 hl2 ⊢
  have HN:=Lib.hid hn
  clear hn
  by_cases h0:0<n
  ·obtain⟨_,_,e1,hc1,hc2,hrd⟩:=id HSE.out
   injection e1 with e11 e12 e13
   subst e11;subst e13
   clear e12
   have hnr:0<rest.length:=by rw[←HN.out];exact h0
   obtain⟨b,o,rfl,hb,c0,_,_,_⟩:=hrd.ent (k:=0) rfl hnr
   obtain⟨u0,hu0⟩:∃u0,u0=rest[0].user:=⟨_,rfl⟩
   rw[←hu0,Nat.zero_mul,Nat.add_zero] at c0
   have HU:=Lib.hid hu0
   have HRd:=Lib.hid hrd
   have h0i:(0:Int)<(n:Int):=by omega
   clear hu0 hrd
   obtain⟨wo,hwo⟩:∃wo,wo=wr:=⟨_,rfl⟩
   subst hwo
   go_wp2_with fail
   go_loopw [4] (fun kv wi=>∃k:Nat,kv=.int .i64 (k:Int)∧1≤k∧k≤n∧Hid (∀j (h:j<rest.length),j<k→rest[j].user=u0)∧Below wo.heap.size wo wi) (fun kv _=>n-(intOf kv).toNat)
   case atStart=>exact⟨1,rfl,by omega,by omega,Lib.hid (fun j h hj=>by (obtain rfl:j=0:=by omega);exact HU.out.symm),bself wo⟩
   case round =>
    obtain⟨k,rfl,hk1,hkn,hall,hbi⟩:=hrel
    have hBw:B0<wo.heap.size:=by have:=hbr.size;omega
    have hwb:b<wo.heap.size:=by omega
    have hnc:n≤c:=by rw[HN.out];exact hc1
    have c0i:=(hbi.cell (p:=⟨b,o,none⟩) hwb).trans c0
    have hbd:=bdrew hbi
    by_cases hlt:k<n
    ·have hkr:k<rest.length:=by rw[←HN.out];exact hlt
     obtain⟨b2,o2,e2,_,ck,_,_,_⟩:=HRd.out.ent (k:=k) rfl hkr
     injection e2 with e2
     injection e2 with e2 e2'
     subst e2;subst e2'
     obtain⟨uk,huk⟩:∃uk,uk=rest[k].user:=⟨_,rfl⟩
     rw[←huk] at ck
     have cki:=(hbi.cell (p:=⟨b,o+k*4,none⟩) hwb).trans ck
     have HUK:=Lib.hid huk
     have hlti:(k:Int)<(n:Int):=by omega
     clear huk ck
     by_cases hu:uk=u0
     ·subst hu
      have ht:(uk.toList==uk.toList)=true:=by simp
      go_upto_region 2 with fail
      refine wp_region_noPanic ?_
      refine wp_region_held_drew (S:=fun W=>True∧W.cell? ⟨b,o,none⟩=some (.string uk)∧W.cell? ⟨b,o+k*4,none⟩=some (.string uk)) (by kernel_rfl) ⟨trivial,c0i,cki⟩ (fun hHeld=>?_)
      refine rtk 0 ?_
      refine rtk 1 ?_
      refine rtk 2 ?_
      refine rtk 3 ?_
      refine rtk 4 ?_
      refine rtk 5 ?_
      refine rtk 6 ?_
      refine rtk 7 ?_
      refine rtk 8 ?_
      refine rtk 9 ?_
      refine rtk 10 ?_
      refine rtk 11 ?_
      refine rtk 12 ?_
      refine rtk 13 ?_
      refine rtk 14 ?_
      refine rtk 15 ?_
      refine rdn ?_
      clear hHeld
      go_wp2_with fail
      go_roundw
      case rel =>
       refine⟨k+1,by go_num,by omega,by omega,Lib.hid (fun j h hj=>?_),hbd⟩
       rcases Nat.lt_or_ge j k with h1|h1
       ·exact hall.out j h h1
       ·obtain rfl:j=k:=by omega
        exact HUK.out.symm
      case measure=>simp[intOf];omega
     ·have ht:(uk.toList==u0.toList)=false:=by rw[beq_eq_false_iff_ne];intro e;exact hu (ext_toList e)
      have HNE:Hid (∀h:k<rest.length,¬rest[k].user=u0):=Lib.hid (fun _ e=>hu (HUK.out.trans e))
      go_upto_region 2 with fail
      refine wp_region_noPanic ?_
      refine wp_region_held_drew (S:=fun W=>True∧W.cell? ⟨b,o,none⟩=some (.string u0)∧W.cell? ⟨b,o+k*4,none⟩=some (.string uk)) (by kernel_rfl) ⟨trivial,c0i,cki⟩ (fun hHeld=>?_)
      refine rtk 0 ?_
      refine rtk 1 ?_
      refine rtk 2 ?_
      refine rtk 3 ?_
      refine rtk 4 ?_
      refine rtk 5 ?_
      refine rtk 6 ?_
      refine rtk 7 ?_
      refine rtk 8 ?_
      refine rtk 9 ?_
      refine rtk 10 ?_
      refine rtk 11 ?_
      refine rtk 12 ?_
      refine rtk 13 ?_
      refine rtk 14 ?_
      refine rtk 15 ?_
      refine rdn ?_
      clear hHeld
      generalize World.drew wr=wx at hbd ⊢
      have HTold:Hid (Calls Tryz.prog 64 #[.slice (some ⟨b,o,none⟩) k c,.pointer (some ⟨B0,0,none⟩),.pointer (some ⟨B0+1,0,none⟩),.pointer (some ⟨bm,0,none⟩)] wx (ToldPost wx B0 bm most (stepS most (P.map (·.2)) room (rest.take k)))):=Lib.hid (by
       have hkr2:k≤rest.length:=by rw[←HN.out];exact hkn
       have hse:=HSE.out
       rw[HN.out] at hse
       have htk:=(hse.takeR hkr2).below (hbd.mono (show B0≤wo.heap.size by omega))
       have hlen:(rest.take k).length=k:=by rw[List.length_take];omega
       refine kTold_any (rest.take k) _ vo P room most B0 bm wx (HSP.out.on hbd) htk (by omega) (by omega) (fun e he=>HZ.out e (List.mem_of_mem_take he)) ⟨hr1,hr2⟩ hmost (by omega) (fun p hp=>?_)
       have:=flat_mem_le (P.map (·.2)) p.2 (List.mem_map.2 ⟨p,hp,rfl⟩)
       omega)
      go_upto_region 5 with fail
      refine HTold.out.mono ?_
      rintro _ w7 ⟨rfl,vo7,P7,hS7,hP7,hb7⟩
      have HS7:=Lib.hid hS7
      have HP7:=Lib.hid hP7
      have hb7':Below B0 w w7:=(hbr.trans (hbd.mono (by omega))).trans hb7
      clear hS7 hP7
      have hkr2:k≤rest.length:=by rw[←HN.out];exact hkn
      have hlen9:=congrArg List.length HP7.out
      have hflat9:=congrArg (fun L=>L.flatten.length) HP7.out
      have hsl:=stepS_len most room (P.map (·.2)) (rest.take k)
      have hsf:=congrArg List.length (stepS_flat most room (P.map (·.2)) (rest.take k))
      simp only[List.length_map,List.length_append,List.length_take] at hlen9 hsl hsf hflat9
      have hroom9:=stepS_room (o:=P.map (·.2)) (p:=rest.take k) ⟨hr1,hr2⟩ hmost
      have HK9:Hid (KeyI most l (rest.drop k) P7 (stepS most (P.map (·.2)) room (rest.take k)).2):=Lib.hid (HKI.out.step (by omega) hkr2 (fun j h hj=>by rw[hall.out j h hj,HU.out]) (fun h=>by rw[←HU.out];exact HNE.out h) HP7.out)
      have hse9:=HSE.out
      rw[HN.out] at hse9
      have hcut9:=(hse9.cutR hkr2).below ((hbd.mono (show B0≤wo.heap.size by omega)).trans hb7)
      have hdl:(rest.drop k).length=rest.length-k:=List.length_drop
      have hsl9:(stepS most (P.map (·.2)) room (rest.take k)).1.length≤P.length+1:=hsl
      obtain⟨st,hst⟩:∃st,st=stepS most (P.map (·.2)) room (rest.take k):=⟨_,rfl⟩
      rw[←hst] at HS7 HK9 hroom9 hlen9 hflat9 hsl9 hsf
      have HF9:=Lib.hid (And.intro hlen9 (And.intro hflat9 (And.intro hsl9 (And.intro hsf (And.intro hroom9 (And.intro hcut9 hdl))))))
      clear HTold hst hlen9 hflat9 hsl hsl9 hsf hroom9 hcut9 hdl hse9
      go_wp2_with fail
      obtain⟨f1,f2,f3,f4,f5,f6,f7⟩:=HF9.out
      have hnn:=HN.out
      refine⟨⟨(if c=k then some ⟨b,o,none⟩ else (some (⟨b,o,none⟩:Addr)).map (·.add (k*4))),c-k,rest.drop k,vo7,P7,st.2,?_,Lib.hid ?_,HS7,HK9,Lib.hid (fun e he=>HZ.out e (List.mem_of_mem_drop he)),f5.1,f5.2,by omega,by omega,hb7'⟩,?_⟩
      ·rw[f7]
       by_cases hck:c=k
       ·simp[hck];omega
       ·simp[hck,add_lit0];try omega
      ·rw[f7];exact f6
      ·simp only[spLen];omega
    ·obtain rfl:k=n:=by omega
     have HNE:Hid (∀h:k<rest.length,¬rest[k].user=u0):=Lib.hid (fun h=>by have:=HN.out;omega)
     have hltf:¬(k:Int)<(k:Int):=by omega
     go_upto_region 2 with fail
     refine wp_region_noPanic ?_
     refine wp_region_held_drew (S:=fun W=>True) (by kernel_rfl) trivial (fun hHeld=>?_)
     refine rtk 0 ?_
     refine rtk 1 ?_
     refine rtk 2 ?_
     refine rtk 3 ?_
     refine rtk 4 ?_
     refine reg_skip 5 (by rfl) (by kernel_rfl) (by kernel_rfl) (by kernel_rfl) (fun _ _ _ h=>h) (by rfl) (by assumption) ?_
     try simp only[Act.put,q1,q2,q3]
     refine reg_skip 6 (by rfl) (by kernel_rfl) (by kernel_rfl) (by kernel_rfl) (fun _ _ _ h=>h) (by rfl) (by assumption) ?_
     try simp only[Act.put,q1,q2,q3]
     refine reg_skip 7 (by rfl) (by kernel_rfl) (by kernel_rfl) (by kernel_rfl) (fun _ _ _ h=>h) (by rfl) (by assumption) ?_
     try simp only[Act.put,q1,q2,q3]
     refine reg_skip 8 (by rfl) (by kernel_rfl) (by kernel_rfl) (by kernel_rfl) (fun _ _ _ h=>h) (by rfl) (by assumption) ?_
     try simp only[Act.put,q1,q2,q3]
     refine reg_skip 9 (by rfl) (by kernel_rfl) (by kernel_rfl) (by kernel_rfl) (fun _ _ _ h=>h) (by rfl) (by assumption) ?_
     try simp only[Act.put,q1,q2,q3]
     refine reg_skip 10 (by rfl) (by kernel_rfl) (by kernel_rfl) (by kernel_rfl) (fun _ _ _ h=>h) (by rfl) (by assumption) ?_
     try simp only[Act.put,q1,q2,q3]
     refine reg_skip 11 (by rfl) (by kernel_rfl) (by kernel_rfl) (by kernel_rfl) (fun _ _ _ h=>h) (by rfl) (by assumption) ?_
     try simp only[Act.put,q1,q2,q3]
     refine reg_skip 12 (by rfl) (by kernel_rfl) (by kernel_rfl) (by kernel_rfl) (fun _ _ _ h=>h) (by rfl) (by assumption) ?_
     try simp only[Act.put,q1,q2,q3]
     refine reg_skip 13 (by rfl) (by kernel_rfl) (by kernel_rfl) (by kernel_rfl) (fun _ _ _ h=>h) (by rfl) (by assumption) ?_
     try simp only[Act.put,q1,q2,q3]
     refine reg_skip 14 (by rfl) (by kernel_rfl) (by kernel_rfl) (by kernel_rfl) (fun _ _ _ h=>h) (by rfl) (by assumption) ?_
     try simp only[Act.put,q1,q2,q3]
     refine rtk 15 ?_
     refine rdn ?_
     clear hHeld
     generalize World.drew wr=wx at hbd ⊢
     have HTold:Hid (Calls Tryz.prog 64 #[.slice (some ⟨b,o,none⟩) k c,.pointer (some ⟨B0,0,none⟩),.pointer (some ⟨B0+1,0,none⟩),.pointer (some ⟨bm,0,none⟩)] wx (ToldPost wx B0 bm most (stepS most (P.map (·.2)) room (rest.take k)))):=Lib.hid (by
      have hkr2:k≤rest.length:=by rw[←HN.out];exact hkn
      have hse:=HSE.out
      rw[HN.out] at hse
      have htk:=(hse.takeR hkr2).below (hbd.mono (show B0≤wo.heap.size by omega))
      have hlen:(rest.take k).length=k:=by rw[List.length_take];omega
      refine kTold_any (rest.take k) _ vo P room most B0 bm wx (HSP.out.on hbd) htk (by omega) (by omega) (fun e he=>HZ.out e (List.mem_of_mem_take he)) ⟨hr1,hr2⟩ hmost (by omega) (fun p hp=>?_)
      have:=flat_mem_le (P.map (·.2)) p.2 (List.mem_map.2 ⟨p,hp,rfl⟩)
      omega)
     go_upto_region 5 with fail
     refine HTold.out.mono ?_
     rintro _ w7 ⟨rfl,vo7,P7,hS7,hP7,hb7⟩
     have HS7:=Lib.hid hS7
     have HP7:=Lib.hid hP7
     have hb7':Below B0 w w7:=(hbr.trans (hbd.mono (by omega))).trans hb7
     clear hS7 hP7
     have hkr2:k≤rest.length:=by rw[←HN.out];exact hkn
     have hlen9:=congrArg List.length HP7.out
     have hflat9:=congrArg (fun L=>L.flatten.length) HP7.out
     have hsl:=stepS_len most room (P.map (·.2)) (rest.take k)
     have hsf:=congrArg List.length (stepS_flat most room (P.map (·.2)) (rest.take k))
     simp only[List.length_map,List.length_append,List.length_take] at hlen9 hsl hsf hflat9
     have hroom9:=stepS_room (o:=P.map (·.2)) (p:=rest.take k) ⟨hr1,hr2⟩ hmost
     have HK9:Hid (KeyI most l (rest.drop k) P7 (stepS most (P.map (·.2)) room (rest.take k)).2):=Lib.hid (HKI.out.step (by omega) hkr2 (fun j h hj=>by rw[hall.out j h hj,HU.out]) (fun h=>by rw[←HU.out];exact HNE.out h) HP7.out)
     have hse9:=HSE.out
     rw[HN.out] at hse9
     have hcut9:=(hse9.cutR hkr2).below ((hbd.mono (show B0≤wo.heap.size by omega)).trans hb7)
     have hdl:(rest.drop k).length=rest.length-k:=List.length_drop
     have hsl9:(stepS most (P.map (·.2)) room (rest.take k)).1.length≤P.length+1:=hsl
     obtain⟨st,hst⟩:∃st,st=stepS most (P.map (·.2)) room (rest.take k):=⟨_,rfl⟩
     rw[←hst] at HS7 HK9 hroom9 hlen9 hflat9 hsl9 hsf
     have HF9:=Lib.hid (And.intro hlen9 (And.intro hflat9 (And.intro hsl9 (And.intro hsf (And.intro hroom9 (And.intro hcut9 hdl))))))
     clear HTold hst hlen9 hflat9 hsl hsl9 hsf hroom9 hcut9 hdl hse9
     go_wp2_with fail
     obtain⟨f1,f2,f3,f4,f5,f6,f7⟩:=HF9.out
     have hnn:=HN.out
     refine⟨⟨(if c=k then some ⟨b,o,none⟩ else (some (⟨b,o,none⟩:Addr)).map (·.add (k*4))),c-k,rest.drop k,vo7,P7,st.2,?_,Lib.hid ?_,HS7,HK9,Lib.hid (fun e he=>HZ.out e (List.mem_of_mem_drop he)),f5.1,f5.2,by omega,by omega,hb7'⟩,?_⟩
     ·rw[f7]
      by_cases hck:c=k
      ·simp[hck];omega
      ·simp[hck,add_lit0];try omega
     ·rw[f7];exact f6
     ·simp only[spLen];omega
  ·have hn0:n=0:=by omega
   subst hn0
   have HE:Hid (P.map (·.2)=splitL most l):=Lib.hid (by
    obtain⟨f,_,hf⟩:=HKI.out
    have h0:rest=[]:=List.length_eq_zero_iff.1 HN.out.symm
    rw[h0] at hf
    cases f with
    | zero=>exact hf
    | succ f=>exact hf)
   go_wp2_with fail
   go_end0
   exact⟨rfl,_,_,_,HSP.out,HE.out,hbr⟩
theorem kSplit_any (l:List Ent) (v:Value) (most:Int) (w:World) (hv:SE w w.heap.size v l) (hrise:risesE l=true) (hl:l.length≤1000) (hz:∀e∈l,e.user.size≤1048576∧e.value.size≤1048576) (hmost:0≤most∧most≤1000000) :
  Calls Tryz.prog 21 #[v,.int .i64 most] w fun e w'=>∃r P,e=.returned r∧OL w' w.heap.size r P∧P.map (·.2)=splitL most l∧Below w.heap.size w w':=by
 have HR:Hid (∀W,Below w.heap.size w W→Calls Tryz.prog 7 #[v] W fun en w'=>en=.returned (.bool true)∧Below W.heap.size W w'):=Lib.hid (fun W hW=>by
  have:=iRises_any v l W (hv.on hW) (by omega)
  rw[hrise] at this
  exact this)
 have HV:=Lib.hid hv
 obtain⟨A,c,rfl,_⟩:=hv
 go_enter Tryz.func21,Tryz.ntmps21
 go_upto_region 5 with (go_at_call 7;refine (HR.out _ (balloc (bself w) _)).mono ?_;rintro _ w1 ⟨rfl,hb1⟩)
 have eg:∀args w,(callFunc 64 args).run Tryz.prog w=.ok (.enter 64 args) w:=enters_of Tryz.func64 (by kernel_rfl) rfl
 obtain⟨B0,hB0⟩:∃B0,B0=w1.heap.size:=⟨_,rfl⟩
 have z1:=hb1.size
 simp only[World.size_alloc] at z1
 have bw1:Below w.heap.size w w1:=(balloc (bself w) _).trans (hb1.mono (by simp))
 have rM1:=(hb1.block w.heap.size (by simp)).trans (heap_alloc_new w _)
 obtain⟨rO,rR⟩:=And.intro (heap_alloc2_old w1 (.cells #[.slice none 0 0] 60) (.cells #[.int .i64 0] 3)) (heap_alloc2_new w1 (.cells #[.slice none 0 0] 60) (.cells #[.int .i64 0] 3))
 have b3:=balloc (balloc (bself w1) (.cells #[.slice none 0 0] 60)) (.cells #[.int .i64 0] 3)
 generalize World.alloc _ _=w3 at rO rR b3 ⊢
 rw[←hB0] at rO rR ⊢
 have bw3:=bstep bw1 b3
 have hS:SpAt w3 B0 w.heap.size (.slice none 0 0) [] 0 most:=⟨by omega,(b3.block _ (by omega)).trans rM1,rO,rR,OL.nil_ _ _⟩
 have HK:Hid (Calls Tryz.prog 63 #[.slice A l.length c,.func (.func 64) #[] #[.pointer (some ⟨B0,0,none⟩),.pointer (some ⟨B0+1,0,none⟩),.pointer (some ⟨w.heap.size,0,none⟩)]] w3 (KeysPost w3 B0 w.heap.size most l)):=Lib.hid (kKeys_any l _ _ most B0 w.heap.size w3 ((HV.out.below bw3).more (by omega)) hS hl hz hmost)
 clear hS rO rR rM1 b3 hb1 hz
 have hB1:w.heap.size<B0:=by omega
 clear hB0 z1
 go_upto_region 6 with (go_at_call 63;refine HK.out.mono ?_;rintro _ w4 ⟨rfl,vo4,P4,r4,hS4,hP4,hb4⟩;have HS4:=Lib.hid hS4;have HP4:=Lib.hid hP4;have c4:=cell_of_row _ _ 0 _ _ _ hS4.rO;clear hS4 hP4)
 go_wp2_with fail
 go_ret
 exact⟨_,P4,rfl,⟨HS4.out.ol.o.rebase (by omega),fun p hp=>(HS4.out.ol.i p hp).rebase (by omega),HS4.out.ol.a,HS4.out.ol.t⟩,HP4.out,bw3.trans (hb4.mono (by omega))⟩
end Go.Proofs.YtchjknbideoieaaGreatDoor
