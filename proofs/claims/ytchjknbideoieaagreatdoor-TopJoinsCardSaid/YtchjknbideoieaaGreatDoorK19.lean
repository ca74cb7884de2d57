/- What is proved here: a row of entries that the call owns, and the steps of a walk over append onto it: of one entry, of a slice of entries. No condition. what ikey.Right and the reference's Right come to, at this seat's numbers. Condition: the texts' lengths are ints. -/
import Derived.Test.YtchjknbideoieaaGreatDoorK06
import Derived.Test.YtchjknbideoieaaGreatDoorK03
namespace Go.Proofs.YtchjknbideoieaaGreatDoor
set_option maxRecDepth 100000
set_option maxHeartbeats 8000000
open Go.RowKit
theorem infoE:(Tryz.prog.info? 29).map (fun i=>(i.zero,i.size,i.bytes))=some (some (.agg #[.string .empty,.int .u64 0,.int .u8 0,.string .empty]),4,48):=by kernel_rfl
def OE (w:World) (base:Nat) (v:Value) (l:List Ent):Prop:=w.ownsRow base 29 4 v l.length (l.flatMap entC)
theorem entC_one (l:List Ent):∀u∈l.flatMap entC,u.oneCell'=true:=by
 intro u hu
 obtain⟨e,_,h⟩:=List.mem_flatMap.1 hu
 simp only[entC,List.mem_cons,List.not_mem_nil,or_false] at h
 rcases h with rfl|rfl|rfl|rfl <;> rfl
section
variable {w w':World} {B base base':Nat} {v:Value} {l:List Ent}
theorem OE.nil_ (w:World) (base:Nat):OE w base (.slice none 0 0) []:=World.ownsRow_nil w base 29 4
theorem OE.below (h:OE w base v l) (hb:Below B w w') (hB:w.heap.size≤B):OE w' base v l:=own_below h hb hB
theorem OE.drew (h:OE w base v l):OE w.drew base v l:=h
theorem OE.drewN (h:OE w base v l) (k:Nat):OE (w.drewN k) base v l:=h
theorem OE.alloc (h:OE w base v l) (o:Obj):OE (w.alloc o) base v l:=World.ownsRow.alloc h o
theorem OE.rebase (h:OE w base v l) (hB:base'≤base):OE w base' v l:=own_base h hB
theorem OE.se (h:OE w base v l):SE w w.heap.size v l:=Sl.of_own h
theorem OE.grown {row:Option Nat} (h:OE w base v l) (hg:w.grownBy w' row) (hne:v.ownBlock=none∨v.ownBlock≠row):OE w' base v l:=World.ownsRow.kept h hg hne
theorem OE.lt (h:OE w base v l):∀k,v.ownBlock=some k→base≤k∧k<w.heap.size:=World.ownsRow.lt h
end
theorem SE.newAt {W:World} {g B:Nat} (e:Ent) (hg:g=W.heap.size) (hB:g<B):SE (W.alloc (.cells #[.string e.user,.int .u64 (e.seq.toNat:Int),.int .u8 (e.kind.toNat:Int),.string e.value] 29)) B (.slice (some ⟨g,0,none⟩) 1 1) [e]:=by
 exact⟨_,_,rfl,Nat.le_refl _,by simp[maxLen],Rd.newBlock W _ _ hg hB rfl⟩
section
variable {ops:Array Oper} {rest:List Oper} {o:Oper} {a:Act} {K:Act→World→Prop} {Q:Exit→Act→World→Prop} {w:World} {E:Prop}
theorem wp_appEs (s x:Operand)
  (ho:o.op=.call { callee:=.builtin .append,args:=#[s,x],argTypes:=#[22,22] })
  (base:Nat) (v:Value) (l:List Ent) (hs:a.eval s=v) (hown:OE w base v l)
  (B:Nat) (u:Value) (m:List Ent) (hx:a.eval x=u) (hr:SE w B u m) (hlen:l.length+m.length≤maxLen) (hfits:Fits l.length m.length 48) (hbase:base≤w.heap.size)
  (h:∀v' w',OE w' base v' (l++m)→w.grownBy w' v.ownBlock→(v'.ownBlock=v.ownBlock∨v'.ownBlock=some w.heap.size)→Below base w w'→K (a.put o.dst v') w'):o.wp Tryz.prog a w K Q:=by
 obtain⟨i0,hi0,hz0,hz1,hz2⟩:=info_parts infoE
 refine wp_app w s x 22 ho base 29 i0 _ 4 48 Tryz.underlying22 hi0 hz0 hz1 hz2 rfl (by omega) v l.length _ hs hown B m.length u _ hx hr (entC_one m) hlen hfits hbase ?_
 intro v' w' h1 h2 h3 h4
 refine h v' w' ?_ h2 h3 h4
 unfold OE
 rw[List.length_append,List.flatMap_append]
 exact h1
theorem wl_appEs (hgd:Region.wanted o (yielded ops a.tmps)=true) (s x:Operand)
  (ho:o.op=.call { callee:=.builtin .append,args:=#[s,x],argTypes:=#[22,22] })
  (base:Nat) (v:Value) (l:List Ent) (hs:a.eval s=v) (hown:OE w base v l)
  (B:Nat) (u:Value) (m:List Ent) (hx:a.eval x=u) (hr:SE w B u m) (hlen:l.length+m.length≤maxLen) (hfits:Fits l.length m.length 48) (hbase:base≤w.heap.size)
  (h:∀v' w',OE w' base v' (l++m)→w.grownBy w' v.ownBlock→(v'.ownBlock=v.ownBlock∨v'.ownBlock=some w.heap.size)→Below base w w'→wpList Tryz.prog ops Q rest (a.put o.dst v') w'):wpList Tryz.prog ops Q (o::rest) a w :=
 wl_of hgd fun _K hK=>wp_appEs s x ho base v l hs hown B u m hx hr hlen hfits hbase fun v' w' a b c d=>hK _ _ (h v' w' a b c d)
theorem wl_appE (hgd:Region.wanted o (yielded ops a.tmps)=true) (s x:Operand)
  (ho:o.op=.call { callee:=.builtin .append,args:=#[s,x],argTypes:=#[22,22] })
  (base:Nat) (v:Value) (l:List Ent) (hs:a.eval s=v) (hown:OE w base v l)
  (e:Ent) {g:Nat} (hg:g=w.heap.size) (hx:a.eval x=.slice (some ⟨g,0,none⟩) 1 1) (hlen:l.length+1≤maxLen) (hfits:Fits l.length 1 48) (hbase:base≤w.heap.size)
  (h:∀v' w',OE w' base v' (l++[e])→w.grownBy w' v.ownBlock→Below base w w'→wpList Tryz.prog ops Q rest (a.put o.dst v') w'):wpList Tryz.prog ops Q (o::rest) a (w.alloc (.cells #[.string e.user,.int .u64 (e.seq.toNat:Int),.int .u8 (e.kind.toNat:Int),.string e.value] 29)):=by
 refine wl_appEs hgd s x ho base v l hs (hown.alloc _) (w.heap.size+1) _ [e] hx (SE.newAt e hg (by omega)) hlen hfits (by simp;omega) ?_
 intro v' w' h1 h2 h3 h4
 exact h v' w' h1 ((World.grownBy_alloc w _ _).trans h2) (((Below.refl _ _).alloc hbase _).trans h4)
end
end Go.Proofs.YtchjknbideoieaaGreatDoor
namespace Go.Proofs.YtchjknbideoieaaGreatDoor
set_option maxRecDepth 100000
set_option maxHeartbeats 8000000
open Go.RowKit
theorem iRight_any (e:Ent) (w:World) (hu:e.user.size≤9223372036854775807) (hv:e.value.size≤9223372036854775807) :
  Calls Tryz.prog 8 #[entV e] w fun e' w'=>e'=.returned (.bool (rightE e))∧Below w.heap.size w w':=by
 have hs:=u64_lt e.seq
 have hk:=u8_lt e.kind
 go_enter Tryz.func8,Tryz.ntmps8
 go_wp2
 all_goals go_ret
 all_goals refine⟨ret_bool ?_,(Below.refl _ _).alloc (Nat.le_refl _) _⟩
 all_goals first
  | exact (rightE_f1 ‹_›).symm
  | exact (rightE_f2 ‹_›).symm
  | exact (rightE_f3 ‹_›).symm
  | exact (rightE_del ‹_› ‹_› ‹_› ‹_›).symm
  | exact (rightE_put ‹_› ‹_› ‹_› ‹_›).symm
end Go.Proofs.YtchjknbideoieaaGreatDoor
