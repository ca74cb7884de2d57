/- What is proved here: what slices.Compact comes to at texts that the call owns, at this seat's numbers: every text is still there. No condition but the number of texts. (The walk follows the shelf's own one, Derived/Shelf/Slices/CompactS.lean, turned to this seat.) -/
import Derived.Test.YtchjknbideoieaaGreatDoorK06
import Derived.BigQuiet
import Derived.Deep.LoopGhost
import Derived.Lib.Walk
import Derived.Sort.WalkB12
import Derived.Sort.EncStr
import Derived.Lib.SliceRun
import Derived.Lib.SlicesCompact
import Derived.Lib.OwnBridge
namespace Go.Proofs.YtchjknbideoieaaGreatDoor
set_option maxRecDepth 100000
set_option maxHeartbeats 8000000
open Go.RowKit Go.Lib Go.Sort
theorem store_world_string {w wr:World} {n blk off:Nat} {dk:Array (List UInt8)} {i:Nat} (hi:i<dk.size) (hwr:wr=putRow encStr (Sort.ahead w n) blk off dk) (x:(List UInt8)) :
  (wr.setCell ⟨blk,off+i,none⟩ (encStr x)).drew=putRow encStr (Sort.ahead w (n+1)) blk off (dk.setIfInBounds i x):=by
 subst hwr
 rw[putRow_set encStr _ blk off dk i x hi,←ahead_drew]
 rfl
theorem infoS:(Tryz.prog.info? 9).map (fun i=>(i.zero,i.size,i.bytes))=some (some (.string .empty),1,16):=by kernel_rfl
theorem zeroS (w:World):(zeroValue 9).run Tryz.prog w=.ok (encStr []) w:=by
 obtain⟨i0,hi,hz0,-,-⟩:=info_parts infoS
 simp[zeroValue,typeInfo,hi,hz0]
 rfl
def OT (w:World) (base:Nat) (v:Value) (l:List (List UInt8)):Prop:=w.ownsRow base 9 1 v l.length (l.map encStr)
def ST (w:World) (B:Nat) (v:Value) (l:List (List UInt8)):Prop:=Sl w B 1 v l.length (l.map encStr)
theorem OT.st {w:World} {base:Nat} {v:Value} {l:List (List UInt8)} (h:OT w base v l):ST w w.heap.size v l:=Sl.of_own h
theorem OT.nil_ (w:World) (base:Nat):OT w base (.slice none 0 0) []:=World.ownsRow_nil w base 9 1
theorem OT.holds {w:World} {base g n cap:Nat} {l:List (List UInt8)} (h:OT w base (.slice (some ⟨g,0,none⟩) n cap) l):n=l.length∧n≤cap∧base≤g∧g<w.heap.size∧Holds encStr w g 0 l.toArray:=by
 obtain⟨h1,h2⟩:=h
 rcases h2 with ⟨hv,_⟩|⟨g',cap',cur,hv,hb,hg,hn,hm,hs,ht⟩
 ·cases hv
 ·injection hv with e1 e2 e3
  injection e1 with e1
  injection e1 with e1
  subst e1;subst e2;subst e3
  refine⟨rfl,hn,hb,(Array.getElem?_eq_some_iff.1 hg).1,fun j hj=>⟨?_,by simp[World.frozen?,hg]⟩⟩
  have hj':j<l.length:=by simpa using hj
  rw[cell_of_row _ _ (0+j) _ _ _ hg,Nat.zero_add]
  have e:(cur.toList.take (l.length*1))[j]? = (l.map encStr)[j]?:=by rw[ht]
  rw[List.getElem?_take,if_pos (by omega),Array.getElem?_toList] at e
  rw[e]
  simp[hj']
theorem compact_mem (d:Array (List UInt8)):∀m,m≤d.size→∀j,j<m→d[j]!∈compactUpTo d m
 | 0,_,j,hj=>by omega
 | m+1,hm,j,hj=>by
  rw[compactUpTo_succ]
  rcases Nat.lt_or_ge j m with h|h
  ·exact List.mem_append_left _ (compact_mem d m (by omega) j h)
  ·have e:j=m:=by omega
   subst e
   by_cases hk:keeps d j=true
   ·rw[if_pos hk]
    exact List.mem_append_right _ (List.mem_cons_self)
   ·have hk2:¬(j=0∨d[j]!≠d[j-1]!):=by simpa [keeps] using hk
    rw[not_or] at hk2
    have hj0:j≠0:=hk2.1
    have he:d[j]! = d[j-1]!:=Decidable.byContradiction hk2.2
    rw[he]
    exact List.mem_append_left _ (compact_mem d j (by omega) (j-1) (by omega))
theorem compact_len (d:Array (List UInt8)) (m:Nat):(compactUpTo d m).length≤m:=by
 unfold compactUpTo
 rw[List.length_map]
 exact Nat.le_trans (List.length_filter_le _ _) (by simp)
theorem compact_sub (d:Array (List UInt8)) (m:Nat) (x:List UInt8) (h:x∈compactUpTo d m):∃j,j<m∧d[j]! = x:=by
 unfold compactUpTo at h
 obtain⟨j,hj,rfl⟩:=List.mem_map.1 h
 have:=(List.mem_filter.1 hj).1
 exact⟨j,by simpa using this,rfl⟩
set_option maxRecDepth 1000000 in
theorem kCompact_arr (blk off cap:Nat) (d:Array (List UInt8)) (w:World) (hH:Holds encStr w blk off d) (hsz:d.size≤9223372036854775807) (hcap:d.size≤cap) :
  Calls Tryz.prog 58 #[.slice (some ⟨blk,off,none⟩) d.size cap] w fun e w'=>e=.returned (.slice (some ⟨blk,off,none⟩) (compactUpTo d d.size).length cap)∧∃q,w'=putRow encStr (Sort.ahead w q) blk off (compactUpTo d d.size++List.replicate (d.size-(compactUpTo d d.size).length) []).toArray:=by
 have same:∀q,(∀j,j<d.size→keeps d j=true)→(compactUpTo d d.size).length=d.size∧w.drewN q=putRow encStr (Sort.ahead w q) blk off (compactUpTo d d.size++List.replicate (d.size-(compactUpTo d d.size).length) []).toArray:=by
  intro q hall
  have e:compactUpTo d d.size=d.toList:=by rw[compactUpTo_all d _ hall,range_map_get]
  rw[e]
  refine⟨by simp,?_⟩
  simp only[Array.length_toList,Nat.sub_self,List.replicate_zero,List.append_nil,Array.toArray_toList]
  exact (putRow_self encStr (Sort.ahead w q) blk off d (holds_ahead encStr w q blk off d hH)).symm
 have HS:Hid (∀q,(∀j,j<d.size→keeps d j=true)→(compactUpTo d d.size).length=d.size∧w.drewN q=putRow encStr (Sort.ahead w q) blk off (compactUpTo d d.size++List.replicate (d.size-(compactUpTo d d.size).length) []).toArray):=Lib.hid same
 clear same
 by_cases h2:d.size<2
 ·have HH:Hid (Holds encStr w blk off d):=Lib.hid hH
  clear hH
  go_enter Tryz.func58,Tryz.ntmps58
  go_wp2
  go_ret
  obtain⟨e1,e2⟩:=HS.out 0 (fun j hj=>keeps_lt_one d j (by omega))
  exact⟨by rw[e1];rfl,0,e2⟩
 ·go_enter Tryz.func58,Tryz.ntmps58
  go_wp2
  go_loopg [3] d.size (fun g s3 wr=>∃k q:Nat,1≤k∧k≤d.size∧d.size-k≤g∧s3=.int .i64 k∧wr=w.drewN q∧∀j,j<k→keeps d j=true)
  case atStart=>exact⟨1,0,Nat.le_refl _,by omega,by omega,rfl,rfl,keeps_lt_one d⟩
  case round =>
   obtain⟨k,q,hk1,hk,hg,rfl,rfl,hall⟩:=hrel
   by_cases hlt:k<d.size
   ·obtain⟨c1,f1⟩:=hH k hlt
    obtain⟨c0,f0⟩:=hH (k-1) (by omega)
    have A:Hid (∀j,j<k→keeps d j=true):=Lib.hid hall
    have HH:Hid (Holds encStr w blk off d):=Lib.hid hH
    clear hall hH
    generalize hx:d[k]! = x at c1
    generalize hy:d[k-1]! = y at c0
    have B:Hid (d[k]! = x∧d[k-1]! = y):=Lib.hid ⟨hx,hy⟩
    clear hx hy
    by_cases hdup:x=y
    ·subst hdup
     go_wp2_with fail
     go_region
     go_wp2
     clear c0 c1 f0 f1
     go_loopg [3,5] d.size (fun g s3 s5 wr=>∃(kk k2 q2:Nat) (dk:Array (List UInt8)),s3=.int .i64 kk∧s5=.int .i64 k2∧1≤k2∧k+k2≤d.size∧d.size-(k+k2)≤g∧wr=putRow encStr (Sort.ahead w q2) blk off dk∧CompInv d (k+k2) kk dk)
     case atStart=>exact⟨k,1,q+1,d,rfl,rfl,Nat.le_refl _,by omega,by omega,(putRow_self encStr (Sort.ahead w (q+1)) blk off d (holds_ahead encStr w (q+1) blk off d HH.out)).symm,CompInv.start A.out (keeps_neg (by omega) (by rw[B.out.1,B.out.2]))⟩
     case round =>
      obtain⟨kk,k2,q2,dk,rfl,rfl,h1,hle,hg2,hwr,hI⟩:=hrel
      have hkk:=hI.lt
      have hds:=hI.size
      have hHk:Holds encStr wr blk off dk:=by rw[hwr];exact holds_putRow encStr _ blk off d dk (holds_ahead encStr w q2 blk off d HH.out) hds
      have W2:Hid (wr=putRow encStr (Sort.ahead w q2) blk off dk):=Lib.hid hwr
      have I2:Hid (CompInv d (k+k2) kk dk):=Lib.hid hI
      clear hwr
      by_cases hlt2:k+k2<d.size
      ·obtain⟨cm,_⟩:=hHk (k+k2) (by omega)
       obtain⟨cp,_⟩:=hHk (k+k2-1) (by omega)
       obtain⟨ck,fk⟩:=hHk kk (by omega)
       rw[hI.high (k+k2) (by omega),show off+(k+k2)=off+k+k2 by omega] at cm
       rw[hI.high (k+k2-1) (by omega),show off+(k+k2-1)=off+k+(k2-1) by omega] at cp
       clear hHk hI
       generalize hu:d[k+k2]! = u at cm
       generalize hv:d[k+k2-1]! = v at cp
       generalize dk[kk]! = old at ck
       have C:Hid (d[k+k2]! = u∧d[k+k2-1]! = v):=Lib.hid ⟨hu,hv⟩
       clear hu hv
       by_cases huv:u=v
       ·subst huv
        go_wp2_with fail
        go_region
        go_wp2
        go_roundg (d.size-(k+(k2+1)))
        case measure=>omega
        case rel=>exact⟨kk,k2+1,q2+1,dk,rfl,by go_num,by omega,by omega,Nat.le_refl _,by rw[W2.out];rfl,I2.out.skip (keeps_neg (by omega) (by rw[C.out.1,C.out.2]))⟩
       ·have hne:(u==v)=false:=beq_eq_false_iff_ne.2 huv
        go_wp2_with fail
        go_region
        go_wp2
        go_roundg (d.size-(k+(k2+1)))
        case measure=>omega
        case rel=>exact⟨kk+1,k2+1,q2+1,dk.setIfInBounds kk u,by go_num,by go_num,by omega,by omega,Nat.le_refl _,store_world_string (by omega) W2.out u,by have:=I2.out.keep hlt2 (keeps_pos (by rw[C.out.1,C.out.2];exact huv));rwa [C.out.1] at this⟩
      ·have hend:k+k2=d.size:=by omega
       have hcl:∀ty,(Builtin.clear_ #[116] ty #[.slice (some ⟨blk,off+kk,none⟩) (d.size-kk) (cap-kk)]).run Tryz.prog wr=.ok (.tuple #[]) (wr.setCells blk (off+kk) (List.replicate (d.size-kk) (encStr []))) :=
        fun ty=>Lib.run_clear_slice wr _ _ ty _ Tryz.underlying116 zeroS rfl rfl blk (off+kk) _ _ (by omega) (fun j hj=>by rw[show off+kk+j=off+(kk+j) by omega,(hHk (kk+j) (by omega)).1];rfl) (fun j hj=>by rw[show off+kk+j=off+(kk+j) by omega];exact (hHk (kk+j) (by omega)).2)
       clear hHk hI
       go_wp2
       go_ret
       have hI:=I2.out
       rw[hend] at hI
       refine⟨by rw[hI.len];rfl,q2,?_⟩
       rw[hI.len,←hI.done [],←putRow_setCells encStr _ blk off _ dk kk (by simp;omega),←W2.out,List.map_replicate]
    ·have hne:(x==y)=false:=beq_eq_false_iff_ne.2 hdup
     go_wp2_with fail
     go_region
     go_wp2
     go_roundg (d.size-(k+1))
     case measure=>omega
     case rel =>
      refine⟨k+1,q+1,by omega,by omega,Nat.le_refl _,by go_num,rfl,fun j hj=>?_⟩
      by_cases e:j=k
      ·subst e
       exact keeps_pos (by rw[B.out.1,B.out.2];exact hdup)
      ·exact A.out j (by omega)
   ·have:k=d.size:=by omega
    subst this
    have HH:Hid (Holds encStr w blk off d):=Lib.hid hH
    clear hH
    go_wp2
    go_ret
    obtain⟨e1,e2⟩:=HS.out q hall
    exact⟨by rw[e1];rfl,q,e2⟩
theorem kCompact_any (v:Value) (base:Nat) (l:List (List UInt8)) (w:World) (h:OT w base v l) (hl:l.length≤1048576) (_hb:base≤w.heap.size) :
  Calls Tryz.prog 58 #[v] w fun e w'=>∃v' ks,e=.returned v'∧ST w' w'.heap.size v' ks∧ks.length≤l.length∧(∀x∈l,x∈ks)∧(∀x∈ks,x∈l)∧Below base w w'∧w.grownBy w' v.ownBlock:=by
 rcases id h.2 with ⟨rfl,h0⟩|⟨g,cap,cur,rfl,_⟩
 ·have e:l=[]:=List.eq_nil_of_length_eq_zero h0
  subst e
  go_enter Tryz.func58,Tryz.ntmps58
  go_wp2
  go_ret
  exact⟨_,[],rfl,Sl.nil_ _ _ _,Nat.le_refl _,(fun x hx=>by cases hx),(fun x hx=>by cases hx),⟨rfl,rfl,rfl,Nat.le_refl _,fun _ _=>rfl⟩,⟨rfl,rfl,rfl,Nat.le_refl _,fun _ _ _=>rfl⟩⟩
 ·obtain⟨_,hnc,hbg,hgs,hH⟩:=OT.holds h
  have hk:=compact_len l.toArray l.toArray.size
  have hC:=kCompact_arr g 0 cap l.toArray w hH (by simp;omega) (by simpa using hnc)
  simp only[List.size_toArray] at hC hk
  refine hC.mono ?_
  rintro e w' ⟨rfl,q,rfl⟩
  have hown:=ownsRow_putRow (q:=q) (k:=(compactUpTo l.toArray l.length).length) (ys:=compactUpTo l.toArray l.length++List.replicate (l.length-(compactUpTo l.toArray l.length).length) []) h (by simp;omega) (by omega)
  rw[List.take_left] at hown
  refine⟨_,compactUpTo l.toArray l.length,rfl,Sl.of_own hown,hk,fun x hx=>?_,fun x hx=>?_,below_putRow (Below.refl _ _) hbg,⟨rfl,rfl,rfl,by simp[putRow,mapBlock,Sort.ahead],fun k hk hne=>?_⟩⟩
  ·obtain⟨j,hj,rfl⟩:=List.getElem_of_mem hx
   have:=compact_mem l.toArray l.length (by simp) j hj
   simpa [hj] using this
  ·obtain⟨j,hj,rfl⟩:=compact_sub _ _ x hx
   have e:(l.toArray)[j]! = l[j]:=by simp[hj]
   rw[e]
   exact List.getElem_mem hj
  have hgk:g≠k:=fun e=>hne (by rw[e];rfl)
  simp[putRow,mapBlock,Sort.ahead,Array.getElem?_modify,hgk]
end Go.Proofs.YtchjknbideoieaaGreatDoor
