/- What is proved here: what level of package tantalustop lays: a table of each part of a split, its meta, its bytes by its number, at this seat's numbers. Conditions: entries that may be, few of them; the table of constants. the tables of a level fit a state; a key's last entry up to a moment is found in the one table whose keys reach over it. No program in sight. what Get .. -/
import Derived.Test.YtchjknbideoieaaGreatDoorK49
import Derived.Test.YtchjknbideoieaaGreatDoorK48
import Derived.Test.YtchjknbideoieaaGreatDoorK46
import Derived.Test.YtchjknbideoieaaGreatDoorK05
namespace Go.Proofs.YtchjknbideoieaaGreatDoor
set_option maxRecDepth 100000
set_option maxHeartbeats 8000000
open Go.RowKit Go.Great Go.Proofs
def oneR:List UInt8:=1::List.replicate 31 0
def oneA:Array Value:=dgA oneR
abbrev hdT (n:Nat):Hd:=⟨2,1,0,0,n⟩
def IsTab (n ev:Nat) (blk:Int) (T:List Ent) (Y:Md) (b:List UInt8):Prop :=
 ∃filt,FiltOk filt T∧MtOf Y.1 (hdT n) (keyOfUse oneR (layH (hdT n))) (layH (hdT n)) ev blk T filt∧Y.1.count=T.length∧Y.1.mn=(T.getD 0 ent0).user∧Y.1.mx=(T.getD (T.length-1) ent0).user∧b=tabB (keyOfUse oneR (layH (hdT n))) (layH (hdT n)) ev blk T filt
structure Tb where
 m:Md
 v:Value
 b:List UInt8
 t:List Ent
structure LvAt (w:World) (Bm base fr ev:Nat) (blk:Int) (vm:Value) (Q:List Tb):Prop where
 o:OG 55 mdC 40 w base vm (Q.map (·.m))
 m:MapU w Bm (Q.map fun q=>(q.m.1.n,q.v))
 b:∀q∈Q,OB w base q.v q.b
 t:∀q∈Q,Ap vm q.v
 i:∀j (h:j<Q.length),IsTab (fr+j) ev blk Q[j].t Q[j].m Q[j].b
theorem LvAt.on {w w':World} {Bm base fr ev:Nat} {blk:Int} {vm:Value} {Q:List Tb} (h:LvAt w Bm base fr ev blk vm Q) (hb:Below w.heap.size w w'):LvAt w' Bm base fr ev blk vm Q :=
 ⟨h.o.below hb (Nat.le_refl _),h.m.on hb,fun q hq=>(h.b q hq).below hb (Nat.le_refl _),h.t,h.i⟩
theorem LvAt.new {w:World} {Bm base fr ev:Nat} {blk:Int} (h:MapU w Bm []):LvAt w Bm base fr ev blk (.slice none 0 0) [] :=
 ⟨OG.nil_ _ _ _ _ _,h,fun q hq=>(by cases hq),fun q hq=>(by cases hq),fun j hj=>(by simp at hj)⟩
theorem LvAt.put {w w1 w2:World} {Bm base fr ev n:Nat} {blk:Int} {vm vm':Value} {Q:List Tb} {q:Tb} (h:LvAt w Bm base fr ev blk vm Q) (ho:OG 55 mdC 40 w1 base vm' (Q.map (·.m)++[q.m])) (hg:w.grownBy w1 vm.ownBlock) (hf:vm'.ownBlock=vm.ownBlock∨vm'.ownBlock=some n) (hn:w.heap.size≤n)
  (hqb:OB w base q.v q.b) (hqa:Ap vm q.v) (hm:MapU w2 Bm (Q.map (fun q=>(q.m.1.n,q.v))++[(q.m.1.n,q.v)])) (hg2:w1.grownBy w2 (some Bm)) (hBm:Bm<base) (hi:IsTab (fr+Q.length) ev blk q.t q.m q.b) :
  LvAt w2 Bm base fr ev blk vm' (Q++[q]):=by
 have hne:∀{x:Value},(∀k,x.ownBlock=some k→base≤k)→x.ownBlock=none∨x.ownBlock≠some Bm:=fun {x} hx=>by
  rcases e:x.ownBlock with _|j
  ·exact .inl rfl
  ·refine .inr fun e2=>?_
   injection e2 with e2
   have:=hx j e
   omega
 have hall:∀x∈Q++[q],OB w base x.v x.b∧Ap vm x.v:=fun x hx=>by
  rcases List.mem_append.1 hx with hx|hx
  ·exact⟨h.b x hx,h.t x hx⟩
  ·rw[List.mem_singleton.1 hx];exact⟨hqb,hqa⟩
 refine⟨?_,by simpa using hm,fun x hx=>?_,fun x hx=>?_,fun j hj=>?_⟩
 ·rw[List.map_append]
  exact ho.grown hg2 (hne fun k hk=>(ho.lt k hk).1)
 ·obtain⟨h1,h2⟩:=hall x hx
  have h3:OB w1 base x.v x.b:=World.ownsRow.kept h1 hg (Ap.symm h2)
  exact World.ownsRow.kept h3 hg2 (hne fun k hk=>(World.ownsRow.lt h3 k hk).1)
 ·obtain⟨h1,h2⟩:=hall x hx
  exact h2.left (fun k hk=>(World.ownsRow.lt h1 k hk).2) (fs_of hf hn)
 ·rw[List.length_append,List.length_singleton] at hj
  rcases Nat.lt_or_ge j Q.length with h1|h1
  ·simp only[List.getElem_append_left h1];exact h.i j h1
  ·obtain rfl:j=Q.length:=by omega
   simpa using hi
theorem flat_len_ge {α:Type}:∀(L:List (List α)),(∀T∈L,0<T.length)→L.length≤L.flatten.length
 | [],_=>Nat.le_refl _
 | T::L,h=>by
  have h1:=h T (by simp)
  have h2:=flat_len_ge L (fun x hx=>h x (by simp[hx]))
  rw[List.flatten_cons,List.length_append,List.length_cons]
  omega
theorem World.ownsRow.rebase' {w:World} {base base':Nat} {v:Value} {l:List UInt8} (h:OB w base v l) (hB:base'≤base):OB w base' v l:=own_base h hB
def SpKept (w:World) (B:Nat) (r:Value) (P:List Pr):Prop:=SG prC 1 w B r P∧∀p∈P,SE w B p.1 p.2
theorem SpKept.keep {w w':World} {B:Nat} {r:Value} {P:List Pr} (h:SpKept w B r P) (hk:∀p:Addr,p.block<B→w'.cell? p=w.cell? p):SpKept w' B r P:=⟨h.1.keep hk,fun p hp=>Sl.keep (h.2 p hp) hk⟩
theorem SpKept.on {w w':World} {B:Nat} {r:Value} {P:List Pr} (h:SpKept w B r P) (hB:B≤w.heap.size) (hb:Below w.heap.size w w'):SpKept w' B r P:=h.keep fun p hp=>hb.cell (by omega)
theorem map_cell {w w':World} {b:Nat} {L L':List (Nat × Value)} (h:MapU w b L) (h':MapU w' b L') (hg:w.grownBy w' (some b)) (p:Addr) (hp:p.block<w.heap.size):w'.cell? p=w.cell? p:=by
 by_cases e:p.block=b
 ·obtain⟨es,c,h1,_⟩:=h
  obtain⟨es',c',h1',_⟩:=h'
  rw[←e] at h1 h1'
  unfold World.cell?
  rw[h1,h1']
 ·exact World.cell?_of_block (hg.block _ hp (fun e2=>by injection e2 with e2;exact e e2))
theorem part_ok {most:Int} {l:List Ent} (hR:rightL l=true) (hlen:l.length≤1000) (htx:textE l≤10000) {T:List Ent} (hT:T∈splitL most l):rightL T=true∧0<T.length∧T.length≤1000∧textE T≤10000:=by
 obtain⟨h1,h2⟩:=rightL_all hR
 obtain⟨a,b,e⟩:=part_of hT
 rw[splitL_flat] at e
 have hl:=congrArg List.length e
 have ht:=congrArg textE e
 rw[textE_append,textE_append] at ht
 simp only[List.length_append] at hl
 refine⟨?_,List.length_pos_iff.2 ((splitL_under most l h1).2 T hT),by omega,by omega⟩
 unfold rightL
 rw[Bool.and_eq_true,List.all_eq_true]
 exact⟨rises_part h1 e,fun x hx=>h2 x (by rw[e];simp[hx])⟩
section
variable {ops:Array Oper} {rest:List Oper} {o:Oper} {a:Act} {Q:Exit→Act→World→Prop} {w:World}
theorem wl_bldOne (hgd:Region.wanted o (yielded ops a.tmps)=true) (ho:o.op=.build 53 #[(0,.const (.int .u8 1))]) (h:wpList Tryz.prog ops Q rest (a.put o.dst (.agg oneA)) w):wpList Tryz.prog ops Q (o::rest) a w:=by
 refine wl_of hgd fun K hK=>?_
 have hr:(execOp a.eval o).run Tryz.prog w=.ok (.value (.agg oneA)) w:=by
  unfold execOp
  simp only[ho]
  kernel_rfl
 exact wp_of_exec hr (hK _ _ h)
end
abbrev rowSh (blk ev bits:Nat):Array Value:=#[.int .i64 (blk:Int),.int .i64 (ev:Int),.int .i64 (bits:Int)]
def LevelPost (w:World) (fr ev:Nat) (blk:Int) (Ts:List (List Ent)) (e:Ending) (w':World):Prop:=∃vm Bm B Q,e=.returned (.tuple #[vm,.map (some Bm),.bool true])∧LvAt w' Bm B fr ev blk vm Q∧Q.map (·.t)=Ts∧w.heap.size≤Bm∧Bm<B∧Below w.heap.size w w'
theorem kLevel_any (l:List Ent) (v:Value) (most:Int) (fr blk ev bits:Nat) (w:World) (hv:SE w w.heap.size v l) (hR:rightL l=true) (hlen:l.length≤1000) (htx:textE l≤10000) (hmost:0≤most∧most≤1000000) (hfr:fr≤1000000) (hblk:1≤blk∧blk≤1048576) (hev:1≤ev∧ev≤1024) (hbits:1≤bits∧bits≤64)
  (hk:KTab w 0) (h1:0<w.heap.size) :
  Calls Tryz.prog 9 #[.int .i64 1,v,.int .i64 most,.int .u64 (fr:Int),.agg (rowSh blk ev bits)] w (LevelPost w fr ev (blk:Int) (splitL most l)):=by
 have hrise:=(rightL_all hR).1
 have hz:∀e∈l,e.user.size≤1048576∧e.value.size≤1048576:=fun e he=>by have:=rightE_le ((rightL_all hR).2 e he);omega
 have hpt:∀T∈splitL most l,rightL T=true∧0<T.length∧T.length≤1000∧textE T≤10000:=fun T hT=>part_ok hR hlen htx hT
 have HSplit:Hid (∀W,Below w.heap.size w W→Calls Tryz.prog 21 #[v,.int .i64 most] W fun e w'=>∃r P,e=.returned r∧OL w' W.heap.size r P∧P.map (·.2)=splitL most l∧Below W.heap.size W w'):=Lib.hid (fun W hW=>kSplit_any l v most W (hv.on hW) hrise hlen hz hmost)
 have HPT:=Lib.hid hpt
 have hnp:(splitL most l).length≤1000:=by
  have h:=congrArg List.length (splitL_flat most l)
  have h2:=flat_len_ge (splitL most l) (fun T hT=>(hpt T hT).2.1)
  omega
 obtain⟨Ts,hTs⟩:∃Ts,Ts=splitL most l:=⟨_,rfl⟩
 rw[←hTs] at HSplit HPT hnp ⊢
 clear hv hR hlen htx hrise hz hpt hTs
 have hwm:=fun W=>run_makeMap (P:=Tryz.prog) 31 W
 go_enter Tryz.func9,Tryz.ntmps9
 go_upto_region 3 with fail
 have rSh:=heap_alloc2_old w (.cells (rowSh blk ev bits) 35) (.map #[] 0)
 have hMp:=MapU.new (w.alloc (.cells (rowSh blk ev bits) 35))
 have bB:=balloc (balloc (bself w) (.cells (rowSh blk ev bits) 35)) (.map #[] 0)
 have zB:((w.alloc (.cells (rowSh blk ev bits) 35)).alloc (.map #[] 0)).heap.size=w.heap.size+1+1:=by simp
 simp only[World.size_alloc] at hMp
 generalize World.alloc _ _=wB at rSh hMp bB zB ⊢
 obtain⟨Bm,hBm⟩:∃Bm,Bm=w.heap.size+1:=⟨_,rfl⟩
 rw[←hBm] at hMp zB ⊢
 have hBm1:w.heap.size<Bm:=by omega
 clear hBm hwm
 have HSp:=Lib.hid (HSplit.out wB bB)
 go_wp2_with (go_at_call 21;refine HSp.out.mono ?_;rintro _ ws ⟨r,P,rfl,hol,hPs,hbs⟩;obtain⟨Ar,cr,rfl,hcr,hcr2⟩:=hol.o.sg.form)
 have rSh2:=(hbs.block _ (show w.heap.size<wB.heap.size by omega)).trans rSh
 have hMp2:=hMp.on hbs
 have bS:=bstep bB hbs
 obtain⟨B,hB⟩:∃B,B=ws.heap.size:=⟨_,rfl⟩
 have hSK:SpKept ws B (.slice Ar P.length cr) P:=by rw[hB];exact⟨hol.o.sg,fun p hp=>(hol.i p hp).se⟩
 have hBs:Bm<B:=by have:=hbs.size;omega
 obtain⟨np,hnpd⟩:∃np,np=P.length:=⟨_,rfl⟩
 have hnpl:np≤1000:=by have:=congrArg List.length hPs;rw[List.length_map] at this;omega
 rw[←hnpd] at hSK hcr ⊢
 have HP:=Lib.hid (And.intro hPs hnpd)
 have hBle:B≤ws.heap.size:=by omega
 clear hol hPs hnpd rSh hMp bB zB HSplit HSp hbs hB
 go_loopw [13,26] (fun mv iv wi=>∃(i:Nat) (A:Option Addr) (m c:Nat) (Q:List Tb),iv=.int .i64 (i:Int)∧mv=.slice A m c∧i≤np∧m≤i∧Hid (m=Q.length∧Q.map (·.t)=Ts.take i∧LvAt wi Bm B fr ev (blk:Int) (.slice A m c) Q)∧Hid (SpKept wi B (.slice Ar np cr) P)∧Hid (wi.heap[w.heap.size]? = some (.cells (rowSh blk ev bits) 35 (0,0)))∧B≤wi.heap.size∧Below w.heap.size w wi) (fun _ iv _=>np-(intOf iv).toNat)
 case atStart=>exact⟨0,none,0,0,[],rfl,rfl,by omega,by omega,Lib.hid ⟨rfl,rfl,LvAt.new hMp2⟩,Lib.hid hSK,Lib.hid rSh2,hBle,bS⟩
 case round =>
  obtain⟨i,A,m,c,Q,rfl,rfl,hi,hmi,HQ,HSK,HSh,hBi,hbi⟩:=hrel
  by_cases hin:i<np
  ·have hiP:i<P.length:=by rw[←HP.out.2];exact hin
   obtain⟨b,o,kk,e,hb,hr⟩:=HSK.out.1.at_ prC_length (by omega)
   injection e with e1 e2 e3
   subst e1;subst e3
   obtain⟨p,hp⟩:∃p:Pr,p=P[i]:=⟨_,rfl⟩
   have cP:=hr i hiP 0 p.1 (by rw[hp];rfl)
   have hse:=HSK.out.2 p (by rw[hp];exact List.getElem_mem hiP)
   rw[Nat.mul_one,Nat.add_zero] at cP
   obtain⟨T,hT⟩:∃T,T=p.2:=⟨_,rfl⟩
   rw[←hT] at hse
   have hTi:Ts[i]? = some T:=by rw[←HP.out.1,List.getElem?_map,List.getElem?_eq_getElem hiP,←hp,hT];rfl
   obtain⟨v3,hv3⟩:∃v3,v3=p.1:=⟨_,rfl⟩
   rw[←hv3] at cP hse
   obtain⟨A3,k3,rfl,_,_⟩:=id hse
   obtain⟨tl,htl⟩:∃tl,tl=T.length:=⟨_,rfl⟩
   rw[←htl] at cP hse
   have HT:=Lib.hid (And.intro hTi (And.intro hse e2))
   have hii:(i:Int)<(np:Int):=by omega
   obtain⟨nm,hnm⟩:∃nm,nm=fr+i:=⟨_,rfl⟩
   have gi8:IntKind.u8.wrap 1=1:=by decide
   have giw:IntKind.u64.wrap (i:Int)=(i:Int):=by rw[IntKind.wrap_u64];omega
   have gnm:(fr:Int)+(i:Int)=(nm:Int):=by omega
   have gnw:IntKind.u64.wrap (nm:Int)=(nm:Int):=by rw[IntKind.wrap_u64];omega
   have HNM:=Lib.hid hnm
   have hnmb:nm≤1001000:=by omega
   clear hr hp hv3 hT hTi hse e2 htl hnm
   have HBuild:Hid (∀W,Below wr.heap.size wr W→Calls Tryz.prog 17 #[.agg oneA,.agg #[.int .u8 2,.int .u8 1,.int .u64 0,.int .u64 0,.int .u64 (nm:Int)],.slice A3 tl k3,.agg (rowSh blk ev bits)] W fun e w'=>∃r Y bts,e=.returned (.tuple #[r,.agg (mdC Y).toArray,.int .i64 0])∧IsTab nm ev (blk:Int) T Y bts∧OB w' W.heap.size r bts∧Below W.heap.size W w'):=Lib.hid (fun W hW=>by
    have hTm:T∈Ts:=List.mem_of_getElem? HT.out.1
    obtain⟨t1,t2,t3,t4⟩:=HPT.out T hTm
    have hbw:=bstep hbi hW
    have hseW:SE W W.heap.size (.slice A3 tl k3) T:=(Sl.keep HT.out.2.1 (fun p hp=>hW.cell (by omega))).more (by have:=hW.size;omega)
    refine (kBuild_tab oneR rfl (hdT nm) ⟨by show 2<256;omega,by show 1<256;omega,by show 0<18446744073709551616;omega,by show 0<18446744073709551616;omega,by show nm<18446744073709551616;omega⟩ rfl rfl T blk ev bits hblk hev hbits oneA rfl (.slice A3 tl k3) W hseW t1 t2 t3 t4 (hk.on hbw h1) (by have:=hbw.size;omega)).mono ?_
    rintro e w' ⟨r,filt,rfl,hf,hob,hb⟩
    refine⟨r,⟨⟨1,0,0,nm,_,_,_,_,_⟩,(rootR jnD zD (tabL (keyOfUse oneR (layH (hdT nm))) (layH (hdT nm)) ev (blk:Int) T filt)).2⟩,_,rfl,⟨filt,hf,⟨rfl,rfl,rfl,rfl,rfl,rfl⟩,rfl,rfl,rfl,rfl⟩,hob,hb⟩)
   go_upto_region 7 with fail
   have hH:=heap_alloc_new wr (.cells #[.int .u8 2,.int .u8 1,.int .u64 0,.int .u64 0,.int .u64 (nm:Int)] 65)
   have hS:=(heap_alloc_old wr (.cells #[.int .u8 2,.int .u8 1,.int .u64 0,.int .u64 0,.int .u64 (nm:Int)] 65) (show w.heap.size<wr.heap.size by have:=(Array.getElem?_eq_some_iff.1 HSh.out).1;omega)).trans HSh.out
   have bH:=balloc (bself wr) (.cells #[.int .u8 2,.int .u8 1,.int .u64 0,.int .u64 0,.int .u64 (nm:Int)] 65)
   generalize World.alloc wr _=wH at hH hS bH ⊢
   have h0:wH.cell? ⟨wr.heap.size,0,none⟩=some (.int .u8 2):=cell_of_row _ _ 0 _ _ _ hH
   have h1c:wH.cell? ⟨wr.heap.size,1,none⟩=some (.int .u8 1):=cell_of_row _ _ 1 _ _ _ hH
   have h2:wH.cell? ⟨wr.heap.size,2,none⟩=some (.int .u64 0):=cell_of_row _ _ 2 _ _ _ hH
   have h3:wH.cell? ⟨wr.heap.size,3,none⟩=some (.int .u64 0):=cell_of_row _ _ 3 _ _ _ hH
   have h4:wH.cell? ⟨wr.heap.size,4,none⟩=some (.int .u64 (nm:Int)):=cell_of_row _ _ 4 _ _ _ hH
   have s0:wH.cell? ⟨w.heap.size,0,none⟩=some (.int .i64 (blk:Int)):=cell_of_row _ _ 0 _ _ _ hS
   have s1:wH.cell? ⟨w.heap.size,1,none⟩=some (.int .i64 (ev:Int)):=cell_of_row _ _ 1 _ _ _ hS
   have s2:wH.cell? ⟨w.heap.size,2,none⟩=some (.int .i64 (bits:Int)):=cell_of_row _ _ 2 _ _ _ hS
   have HBd:=Lib.hid (HBuild.out wH bH)
   clear hH hS cP gi8 giw gnm gnw HBuild
   go_upto_region 8 with (first|(refine wl_bldOne rfl rfl ?_)|(go_at_call 17;refine HBd.out.mono ?_;rintro _ w3 ⟨r3,Y,bts,rfl,hit,hob,hb3⟩;obtain⟨xc,hxc⟩:∃xc,(mdC Y).toArray=xc:=⟨_,rfl⟩;rw[hxc];obtain⟨A4,k4,rfl,_,_⟩:=hob.sb;obtain⟨bl,hbl⟩:∃bl,bl=bts.length:=⟨_,rfl⟩;rw[←hbl] at hob ⊢;have HXP:Hid (xc.size=40∧∀v∈xc.toList,v.oneCell'=true):=Lib.hid (by rw[←hxc];exact⟨by simp[mdC_length],fun v hv=>mdC_one Y v (by simpa using hv)⟩);have HY:=Lib.hid (And.intro hxc (And.intro hit (And.intro hob hb3)));clear hxc hbl hit hob hb3)|(refine wl_storeT 55 (n:=40) infoMd rfl (.tmp 19) (.tmp 45) rfl _ rfl _ xc rfl (heap_alloc_new _ _) (by rfl) HXP.out.1 HXP.out.2 ?_))
   try simp only[Act.put]
   generalize hW4:World.setRow _ _ _=w4
   have hX4:w4.heap[w3.heap.size]? = some (.cells xc 55 (0,0)):=by rw[←hW4];exact setRow_heap _ _ _ _ _ _ (heap_alloc_new _ _)
   have b34:Below w3.heap.size w3 w4:=by rw[←hW4];exact below_setRow (balloc (bself w3) _) (Nat.le_refl _) _
   have z4:w3.heap.size<w4.heap.size:=(Array.getElem?_eq_some_iff.1 hX4).1
   obtain⟨hxc,hit,hob,hb3⟩:=HY.out
   have b4:Below wr.heap.size wr w4:=bstep (bstep bH hb3) b34
   have hzr:wr.heap.size≤w3.heap.size:=(bstep bH hb3).size
   have hzH:wr.heap.size≤wH.heap.size:=bH.size
   have hY3:Y.1.n=nm:=by obtain⟨_,_,q,_⟩:=hit;exact q.n
   have d3:w4.cell? ⟨w3.heap.size,3,none⟩=some (.int .u64 (nm:Int)):=(cell_of_row _ _ 3 _ _ _ hX4).trans (by rw[←hxc,←hY3];rfl)
   obtain⟨hQ1,hQ2,hQ3⟩:=HQ.out
   have hQl:Q.length=i:=by
    have h5:=congrArg List.length hQ2
    have h6:=congrArg List.length HP.out.1
    rw[List.length_map,List.length_take] at h5
    rw[List.length_map,←HP.out.2] at h6
    omega
   have hown:=hQ3.o.lt
   have hrown:=World.ownsRow.lt hob
   have hApR:Ap (.slice A m c) (.slice A4 bl k4):=by
    rcases e:(Value.slice A m c).ownBlock with _|g
    ·exact .inl e
    ·refine .inr fun e2=>?_
     rw[e] at e2
     have g1:=(hown g e).2
     have g2:=(hrown g e2.symm).1
     omega
   have HL4:=Lib.hid (hQ3.on b4)
   have HOR:Hid (OB w4 B (.slice A4 bl k4) bts):=Lib.hid ((World.ownsRow.rebase' hob (by omega)).below b34 (Nat.le_refl _))
   have hneX:some w3.heap.size≠(Value.slice A m c).ownBlock:=fun e=>by have:=(hown _ e.symm).2;omega
   have HNeX:=Lib.hid hneX
   have hkeys:∀p∈Q.map (fun q=>(q.m.1.n,q.v)),p.1≠nm:=fun p hp=>by
    obtain⟨q,hq,rfl⟩:=List.mem_map.1 hp
    obtain⟨j,hj,rfl⟩:=List.getElem_of_mem hq
    obtain⟨_,_,mt,_⟩:=hQ3.i j hj
    have:=mt.n
    show Q[j].m.1.n≠nm
    rw[this]
    show fr+j≠nm
    have:=HNM.out
    omega
   have HKeys:=Lib.hid hkeys
   have hlQ:(Q.map (·.m)).length=i:=by rw[List.length_map];exact hQl
   have HlQ:=Lib.hid (And.intro hlQ hQl)
   have HY3:=Lib.hid hY3
   have hBw4:B≤w4.heap.size:=by omega
   clear hW4 hxc hit hob hb3 hQ1 hQ2 hQ3 hQl hown hrown hneX hkeys hlQ hY3
   go_upto_region 11 with (first|(refine wpList_load_row rfl 55 (.tmp 19) rfl _ rfl _ xc (0,0) _ hX4 Tryz.underlying55 rfl (by rw[HXP.out.1];exact infoMd) ?_)|(refine wl_buildG rfl 30 55 _ 112 infoMdz Tryz.underlying30 (by omega) (by omega) (by omega) (.tmp 50) rfl xc rfl HXP.out.1 ?_)|(at_builtin;refine wl_appG rfl 30 55 _ 112 infoMdz Tryz.underlying30 rfl (by omega) (.tmp 49) (.tmp 51) rfl B (.slice A m c) (Q.map (·.m)) rfl (HL4.out.o.alloc _) (w4.heap.size+1) _ [Y] (fun x hx u hu=>by rw[List.mem_singleton.1 hx] at hu;exact mdC_one Y u hu) rfl (by rw[←HY.out.1];exact SG.new1 w4 mdC 40 55 Y (mdC_length Y) rfl (Nat.lt_succ_self _)) (by have:=HlQ.out.1;simp[maxLen] at this ⊢;omega) (by have:=HlQ.out.1;simp at this ⊢;omega) (by rw[World.size_alloc];omega) ?_;intro v6 w6 ho6 hg6 hf6 hb6;obtain⟨A6,k6,rfl,_,_⟩:=ho6.sg.form;obtain⟨m6,hm6⟩:∃m6,m6=(Q.map (·.m)++[Y]).length:=⟨_,rfl⟩;rw[←hm6] at ho6 hf6 ⊢;have H6:=Lib.hid (And.intro hm6 (And.intro ho6 (And.intro hg6 (And.intro hf6 hb6))));clear hm6 ho6 hg6 hf6 hb6))
   obtain⟨hm6,ho6,hg6,hf6,hb6⟩:=H6.out
   have hXa:w3.heap.size<(w4.alloc (.cells xc 55)).heap.size:=by rw[World.size_alloc];omega
   have d3':w6.cell? ⟨w3.heap.size,3,none⟩=some (.int .u64 (nm:Int)):=(grown_cell hg6 hXa HNeX.out 3).1.trans ((World.cell?_alloc_lt w4 _ _ z4).trans d3)
   have hMa:=HL4.out.m.alloc (.cells xc 55)
   have hBne:some Bm≠(Value.slice A m c).ownBlock:=fun e=>by have:=(HL4.out.o.lt _ e.symm).1;omega
   have HM6:Hid (MapU w6 Bm (Q.map fun q=>(q.m.1.n,q.v))):=Lib.hid (hMa.blk (hg6.block Bm hMa.lt hBne))
   have hz6:=hb6.size
   rw[World.size_alloc] at hz6
   clear hm6 ho6 hg6 hf6 hb6 d3 hXa hMa hBne
   go_upto_region 12 with (at_mapUpdate;refine wl_mapU rfl (.tmp 53) (.tmp 55) (.tmp 56) 31 rfl Tryz.underlying31 Tryz.underlying23 Bm _ rfl HM6.out nm rfl _ rfl HKeys.out ?_;intro w7 hm7 hg7)
   have HW7:=Lib.hid (And.intro hm7 hg7)
   clear hm7 hg7
   go_wp2_with fail
   go_roundw
   case rel =>
    obtain⟨hm6,ho6,hg6,hf6,hb6⟩:=H6.out
    obtain⟨hm7,hg7⟩:=HW7.out
    obtain⟨_,hit,_,_⟩:=HY.out
    have hB34:Below B wr w4:=b4.mono hBi
    have hB6:Below B wr w6:=(hB34.alloc hBw4 _).trans hb6
    have hL7:LvAt w7 Bm B fr ev (blk:Int) (.slice A6 m6 k6) (Q++[⟨Y,.slice A4 bl k4,bts,T⟩]):=by
     refine HL4.out.put (n:=w4.heap.size+1) (q:=⟨Y,.slice A4 bl k4,bts,T⟩) ho6 ((World.grownBy_alloc w4 _ _).trans hg6) (by simpa using hf6) (by omega) HOR.out hApR ?_ hg7 hBs ?_
     ·rw[←HY3.out] at hm7;exact hm7
     ·rw[HlQ.out.2,←HNM.out];exact hit
    have hSK6:SpKept w6 B (.slice (some ⟨b,o,none⟩) np cr) P:=HSK.out.keep fun p hp=>hB6.cell hp
    have hBw6:B≤w6.heap.size:=by have:=hb6.size;rw[World.size_alloc] at this;omega
    refine⟨i+1,A6,m6,k6,Q++[⟨Y,.slice A4 bl k4,bts,T⟩],by go_num,rfl,by omega,?_,Lib.hid ⟨?_,?_,hL7⟩,Lib.hid ?_,Lib.hid ?_,?_,?_⟩
    ·rw[hm6,List.length_append,HlQ.out.1];simp
    ·rw[hm6,List.length_append,HlQ.out.1,List.length_append,HlQ.out.2]
     rfl
    ·have hi2:=List.getElem?_eq_some_iff.1 HT.out.1
     obtain⟨hi3,hi4⟩:=hi2
     rw[List.map_append,HQ.out.2.1,List.take_succ_eq_append_getElem hi3,hi4]
     rfl
    ·exact hSK6.keep fun p hp=>map_cell HM6.out hm7 hg7 p (by omega)
    ·exact (hg7.block _ (by have:=hbi.size;omega) (by intro e;injection e with e;omega)).trans ((hB6.block _ (by omega)).trans HSh.out)
    ·have:=hg7.size;omega
    ·exact below_grown (hbi.trans (hB6.mono (by omega))) hg7 (by have:=hbi.size;have:=hB6.size;omega) (fun g e=>by injection e with e;omega)
   case measure=>simp[intOf];omega
  ·have hii:¬(i:Int)<(np:Int):=by omega
   go_wp2_with fail
   refine bodyPost_ret (v:=.tuple #[.slice A m c,.map (some Bm),.bool true]) (by simp[results,Tryz.results9,go_sem]) rfl ?_
   obtain⟨q1,q2,q3⟩:=HQ.out
   refine⟨_,Bm,B,Q,rfl,q3,?_,by omega,hBs,hbi⟩
   rw[q2,show i=Ts.length by have h:=congrArg List.length HP.out.1;rw[List.length_map,←HP.out.2] at h;omega,List.take_length]
end Go.Proofs.YtchjknbideoieaaGreatDoor
namespace Go.Proofs.YtchjknbideoieaaGreatDoor
set_option maxRecDepth 100000
set_option maxHeartbeats 8000000
open Go.RowKit
theorem few_le:∀(l:List Ent) (i left:Nat),fewF i l left=true→l.length≤200-i∧textE l≤left
 | [],_,_,_=>by simp[textE]
 | o::l,i,left,h=>by
  rw[fewF] at h
  simp only[Bool.and_eq_true,decide_eq_true_eq] at h
  obtain⟨⟨⟨h1,h2⟩,h3⟩,h4⟩:=h
  obtain⟨h5,h6⟩:=few_le l (i+1) _ h4
  rw[textE_cons,List.length_cons]
  omega
structure LvQ (fr ev:Nat) (blk:Int) (most:Int) (l:List Ent) (Q:List Tb):Prop where
 t:Q.map (·.t)=splitL most l
 i:∀j (h:j<Q.length),IsTab (fr+j) ev blk Q[j].t Q[j].m Q[j].b
 R:rightL l=true
 len:l.length≤1000
 tx:textE l≤10000
section
variable {fr ev:Nat} {blk most:Int} {l:List Ent} {Q:List Tb}
theorem LvQ.part (h:LvQ fr ev blk most l Q) {j:Nat} (hj:j<Q.length):rightL Q[j].t=true∧0<Q[j].t.length∧Q[j].t.length≤1000∧textE Q[j].t≤10000 :=
 part_ok h.R h.len h.tx (by rw[←h.t];exact List.mem_map.2 ⟨Q[j],List.getElem_mem hj,rfl⟩)
theorem LvQ.num (h:LvQ fr ev blk most l Q) {j:Nat} (hj:j<Q.length):Q[j].m.1.n=fr+j:=by
 obtain⟨_,_,mt,_⟩:=h.i j hj
 exact mt.n
theorem getD_in {T:List Ent} {k:Nat} (hk:k<T.length):T.getD k ent0=T[k]:=by rw[List.getD_eq_getElem?_getD,List.getElem?_eq_getElem hk];rfl
theorem LvQ.fits (h:LvQ fr ev blk most l Q) {j:Nat} (hj:j<Q.length):FitM (fr+Q.length) Q[j].m.1:=by
 obtain⟨p1,p2,p3,p4⟩:=h.part hj
 obtain⟨filt,hf,mt,hc,hmn,hmx,hb⟩:=h.i j hj
 obtain⟨hR,hA⟩:=rightL_all p1
 have e1:=hA _ (List.getElem_mem (show 0<Q[j].t.length from p2))
 have e2:=hA _ (List.getElem_mem (show Q[j].t.length-1<Q[j].t.length by omega))
 obtain⟨L,pb,hfl,hL0,hLm,_⟩:=hf
 have hfl2:filt.length≤1048600:=by rw[hfl,List.length_append];simp only[List.length_cons,List.length_nil];omega
 have hsz:=tab_le (keyOfUse oneR (layH (hdT (fr+j)))) (layH (hdT (fr+j))) (layH_len _) ev blk Q[j].t filt p1 p3 p4 hfl2
 have hpos:1≤(tabB (keyOfUse oneR (layH (hdT (fr+j)))) (layH (hdT (fr+j))) ev blk Q[j].t filt).length:=by
  unfold tabB tableB
  simp only[List.length_append,layH_len]
  omega
 refine⟨mt.lv,mt.g,by rw[mt.n];show fr+j<_;omega,?_,?_,?_,by rw[hc];omega,by rw[hc];omega,by rw[mt.size];exact hpos,by rw[mt.size];omega⟩
 ·rw[hmn,hmx]
  exact rises_user hR 0 (Q[j].t.length-1) (by omega) (by omega)
 ·rw[hmn,getD_in p2];exact (rightE_le e1).1
 ·rw[hmx,getD_in (show Q[j].t.length-1<Q[j].t.length by omega)];exact (rightE_le e2).1
theorem LvQ.has (h:LvQ fr ev blk most l Q) (u:ByteArray) {q:Tb} (hq:q∈Q):hasM u q.m=hasU u q.t:=by
 obtain⟨j,hj,rfl⟩:=List.getElem_of_mem hq
 obtain⟨_,_,_,_,hmn,hmx,_⟩:=h.i j hj
 unfold hasM hasU
 rw[hmn,hmx]
theorem LvQ.look (h:LvQ fr ev blk most l Q) (q:Ent):((Q.map (·.m)).filter (hasM q.user)=[]∧seekE q l=none)∨∃j,∃hj:j<Q.length,(Q.map (·.m)).filter (hasM q.user)=[Q[j].m]∧seekE q l=seekE q Q[j].t:=by
 have h1:(Q.map (·.m)).filter (hasM q.user)=(Q.filter (fun x=>hasU q.user x.t)).map (·.m):=by
  rw[List.filter_map]
  congr 1
  apply List.filter_congr
  intro x hx
  exact h.has q.user hx
 have h2:(splitL most l).filter (hasU q.user)=(Q.filter (fun x=>hasU q.user x.t)).map (·.t):=by
  rw[←h.t,List.filter_map]
  rfl
 have hR:=(rightL_all h.R).1
 obtain⟨u1,u2⟩:=splitL_under most l hR
 have hone:=has_once (u:=q.user) u1 u2
 have hseek:=seek_tables q (splitL most l) (by rw[splitL_flat];exact hR) hone
 rw[splitL_flat] at hseek
 rw[h2] at hone hseek
 rw[h1]
 cases hF:Q.filter (fun x=>hasU q.user x.t) with
 | nil =>
  rw[hF] at hseek
  exact .inl ⟨rfl,hseek⟩
 | cons a r =>
  rw[hF] at hone hseek
  rw[List.length_map,List.length_cons] at hone
  have hr:r=[]:=List.length_eq_zero_iff.1 (by omega)
  subst hr
  have ha:a∈Q:=by
   have:a∈Q.filter (fun x=>hasU q.user x.t):=by rw[hF];simp
   exact (List.mem_filter.1 this).1
  obtain⟨j,hj,rfl⟩:=List.getElem_of_mem ha
  exact .inr ⟨j,hj,rfl,hseek⟩
end
end Go.Proofs.YtchjknbideoieaaGreatDoor
namespace Go.Proofs.YtchjknbideoieaaGreatDoor
set_option maxRecDepth 100000
set_option maxHeartbeats 8000000
open Go.RowKit Go.Great Go.Proofs
theorem kGetLv_any (q:Tb) (n ev:Nat) (blk:Int) (user:ByteArray) (hus:user.size≤140737488355328) (seq:UInt64) (v:Value) (w:World) (hn:n<18446744073709551616) (hi:IsTab n ev blk q.t q.m q.b) (hev:1≤ev∧ev≤1024) (hL:rightL q.t=true) (hne:0<q.t.length) (hlen:q.t.length≤1000) (htx:textE q.t≤10000)
  (hv:SB w w.heap.size v q.b) (hk:KTab w 0) (h1:0<w.heap.size) :
  Calls Tryz.prog 14 #[.agg oneA,.agg (mdC q.m).toArray,v,.string user,.int .u64 (seq.toNat:Int)] w (GetPost w (seekE (keyQ user seq) q.t)):=by
 obtain⟨filt,hf,mt,_,_,_,hb⟩:=hi
 rw[hb] at hv
 rw[←only_seek (rightL_all hL).1]
 exact kGet_any oneR rfl (hdT n) ⟨by show 2<256;omega,by show 1<256;omega,by show 0<18446744073709551616;omega,by show 0<18446744073709551616;omega,hn⟩ rfl rfl q.m.1 _ _ rfl rfl ev blk q.t filt mt hev hf hL hne hlen htx user hus seq oneA _ rfl rfl v w hv hk h1
theorem exec_bldOne {o:Oper} {a:Act} (w:World) (ho:o.op=.build 53 #[(0,.const (.int .u8 1))]):(execOp a.eval o).run Tryz.prog w=.ok (.value (.agg oneA)) w:=by
 unfold execOp
 simp only[ho]
 kernel_rfl
def e0T:Ent:=⟨⟨#[97]⟩,2,1,⟨#[120]⟩⟩
theorem e0_right:rightL [e0T]=true:=by decide
theorem e0_seek:seekE (keyQ ⟨#[97]⟩ 5) [e0T]=some e0T:=by
 unfold seekE
 rw[List.find?_cons]
 have:(decide (e0T.user=(keyQ ⟨#[97]⟩ 5).user)&&decide (e0T.seq.toNat≤(keyQ ⟨#[97]⟩ 5).seq.toNat))=true:=by decide
 rw[this]
theorem kStandsT (w:World) (hk:KTab w 0) (h1:0<w.heap.size):Calls Tryz.prog 5 #[] w fun e w'=>e=.returned (.bool true)∧Below w.heap.size w w':=by
 have HSh:Hid (∀W,Calls Tryz.prog 10 #[.int .u8 9] W fun e w'=>e=.returned (.agg (rowSh 10 3 10))∧Below W.heap.size W w'):=Lib.hid (fun W=>kShape_any 9 W)
 have HLev:Hid (∀W v,Below w.heap.size w W→SE W W.heap.size v [e0T]→Calls Tryz.prog 9 #[.int .i64 1,v,.int .i64 10,.int .u64 3,.agg (rowSh 10 3 10)] W (LevelPost W 3 3 10 [[e0T]])):=Lib.hid (fun W v hW hv =>
  kLevel_any [e0T] v 10 3 10 3 10 W hv e0_right (by decide) (by decide) ⟨by omega,by omega⟩ (by omega) ⟨by omega,by omega⟩ ⟨by omega,by omega⟩ ⟨by omega,by omega⟩ (hk.on hW h1) (by have:=hW.size;omega))
 go_enter Tryz.func5,Tryz.ntmps5
 go_upto_region 2 with (first|(go_at_call 10;refine (HSh.out _).mono ?_;rintro _ w1 ⟨rfl,hb1⟩))
 have bA:=balloc (bself w) (.cells #[.string ⟨#[97]⟩,.int .u64 2,.int .u8 1,.string ⟨#[120]⟩] 29)
 have bA1:=bstep bA hb1
 have hse:SE (w.alloc (.cells #[.string ⟨#[97]⟩,.int .u64 2,.int .u8 1,.string ⟨#[120]⟩] 29)) (w.alloc (.cells #[.string ⟨#[97]⟩,.int .u64 2,.int .u8 1,.string ⟨#[120]⟩] 29)).heap.size (.slice (some ⟨w.heap.size,0,none⟩) 1 1) [e0T]:=SE.newAt (W:=w) e0T rfl (by simp)
 have hse1:=hse.on hb1
 have HL0:=Lib.hid (HLev.out w1 _ bA1 hse1)
 clear hse hse1 bA hb1 HSh HLev
 refine HL0.out.mono ?_
 rintro _ w2 ⟨vm,Bm,B,Q,rfl,hL,hQt,hBm,hBB,hb2⟩
 obtain⟨q,rfl⟩:∃q,Q=[q]:=List.length_eq_one_iff.1 (by have:=congrArg List.length hQt;simpa using this)
 have hqt:q.t=[e0T]:=by simpa using hQt
 obtain⟨g,k,e⟩:=hL.o.form0 (by simp)
 have e2:vm=.slice (some ⟨g,0,none⟩) 1 k:=by rw[e];rfl
 subst e2
 have hit:=hL.i 0 (by simp)
 simp only[List.getElem_cons_zero,Nat.add_zero] at hit
 have hqn:q.m.1.n=3:=by obtain⟨_,_,mt,_⟩:=hit;exact mt.n
 have hob:=hL.b q (by simp)
 have hM:=hL.m
 simp only[List.map_cons,List.map_nil] at hM
 rw[hqn] at hM
 have hrg:w2.rangeAt g 0 (mdC q.m):=by
  obtain⟨b',o',k',e',_,hr⟩:=hL.o.sg.at_ mdC_length (by simp)
  injection e' with e1 _ _
  injection e1 with e1
  injection e1 with e1 e2
  subst e1;subst e2
  have:=hr 0 (by simp)
  simpa using this
 have hgl:=(hL.o.lt g rfl).2
 obtain⟨qv,hqv⟩:∃qv,qv=q.v:=⟨_,rfl⟩
 rw[←hqv] at hob hM
 obtain⟨A4,k4,rfl,_,_⟩:=id hob.sb
 obtain⟨bl,hbl⟩:∃bl,bl=q.b.length:=⟨_,rfl⟩
 rw[←hbl] at hob hM
 obtain⟨xc,hxc⟩:∃xc,xc=(mdC q.m).toArray:=⟨_,rfl⟩
 have b2:=bstep bA1 hb2
 have KS:Hid (∀W,Below w2.heap.size w2 W→W.rangeAt g 0 (mdC q.m)∧MapU W Bm [(3,.slice A4 bl k4)]):=Lib.hid (fun W hW=>⟨SGr hW hgl hrg,hM.on hW⟩)
 have HGet:Hid (∀W,Below w2.heap.size w2 W→Calls Tryz.prog 14 #[.agg oneA,.agg xc,.slice A4 bl k4,.string ⟨#[97]⟩,.int .u64 5] W fun e w'=>e=.returned (.tuple #[.agg #[.string ⟨#[97]⟩,.int .u64 2,.int .u8 1,.string ⟨#[120]⟩],.bool true,.int .i64 0])∧Below W.heap.size W w'):=Lib.hid (fun W hW=>by
  have hbw:=bstep b2 hW
  have h:=kGetLv_any q 3 3 10 ⟨#[97]⟩ (by decide) 5 (.slice A4 bl k4) W (by omega) hit ⟨by omega,by omega⟩ (by rw[hqt];exact e0_right) (by rw[hqt];decide) (by rw[hqt];decide) (by rw[hqt];decide) ((hob.sb).on hW) (hk.on hbw h1) (by have:=hbw.size;omega)
  rw[hqt,e0_seek,←hxc] at h
  exact h)
 have HX:=Lib.hid (And.intro hxc (And.intro b2 hgl))
 clear HL0 hL hQt hqt e hit hqn hob hM hrg hgl hqv hbl hxc b2 hb2 bA1
 go_upto_region 4 with fail
 have b2d:=bdrew (bself w2)
 refine wp_region_noPanic ?_
 refine wp_region_held_drew (S:=fun W=>True∧W.rangeAt g 0 (mdC q.m)∧MapU W Bm [(3,.slice A4 bl k4)]) (by kernel_rfl) ⟨trivial,KS.out _ b2d⟩ (fun hHeld=>?_)
 refine reg_take 0 (v:=.agg oneA) (by rfl) (by kernel_rfl) (by kernel_rfl) (by kernel_rfl) (fun _ _ _ h=>h) (by rfl) ?_ (by assumption) ?_
 ·(intro wq hSq;exact exec_bldOne _ rfl)
 try simp only[Act.put,q1,q2,q3]
 refine rtk 1 ?_
 refine rtk 2 ?_
 refine reg_take 3 (v:=.agg (mdC q.m).toArray) (by rfl) (by kernel_rfl) (by kernel_rfl) (by kernel_rfl) (fun _ _ _ h=>h) (by rfl) ?_ (by assumption) ?_
 ·(intro wq hSq;exact exec_loadG 55 Tryz.underlying55 rfl infoMd (.tmp 25) rfl g 0 rfl (mdC q.m) (mdC_length q.m) hSq.2.1)
 try simp only[Act.put,q1,q2,q3]
 rw[←HX.out.1]
 refine rtk 4 ?_
 refine reg_take 5 (v:=.slice A4 bl k4) (by rfl) (by kernel_rfl) (by kernel_rfl) (by kernel_rfl) (fun _ _ _ h=>h) (by rfl) ?_ (by assumption) ?_
 ·(intro wq hSq;exact exec_lookU 31 (.tmp 27) (.const (.int .u64 3)) rfl Bm 3 rfl rfl (hSq.2.2.look Tryz.underlying31 Tryz.underlying23 3 _ (fun p hp _=>by rw[List.mem_singleton.1 hp]) ⟨_,List.mem_singleton.2 rfl,rfl⟩))
 try simp only[Act.put,q1,q2,q3]
 refine reg_pair 6 11 (by rfl) (by rfl) (by kernel_rfl) (by rfl) (by rfl) (fun K hK=>?_) (fun K hK=>?_)
 ·skip
  (go_simp;go_at_call 14;refine (HGet.out _ b2d).mono ?_;rintro _ w5 ⟨rfl,hb5⟩;have b5:=bstep b2d hb5;go_wp2_with fail)
  refine hK.out _ _ ?_ (fun hHeld=>?_)
  ·exact⟨trivial,KS.out _ b5⟩
  clear hK K
  try simp only[Act.put,q1,q2,q3]
  refine rtk 7 ?_
  refine rtk 8 ?_
  refine rtk 9 ?_
  refine rtk 10 ?_
  refine ro 11 (fun K hK=>?_)
  (go_simp)
  refine hK.out _ _ ?_ (fun hHeld=>?_)
  ·exact⟨trivial,KS.out _ (balloc b5 _)⟩
  clear hK K
  try simp only[Act.put,q1,q2,q3]
  refine ro 12 (fun K hK=>?_)
  (go_simp)
  refine hK.out _ _ ?_ (fun hHeld=>?_)
  ·exact⟨trivial,KS.out _ (balloc b5 _)⟩
  clear hK K
  try simp only[Act.put,q1,q2,q3]
  refine rtk 13 ?_
  refine rtk 14 ?_
  refine rdn ?_
  clear hHeld
  have hE:=heap_alloc_new w5 (.cells #[.string ⟨#[97]⟩,.int .u64 2,.int .u8 1,.string ⟨#[120]⟩] 29)
  have bE:=balloc b5 (.cells #[.string ⟨#[97]⟩,.int .u64 2,.int .u8 1,.string ⟨#[120]⟩] 29)
  generalize World.alloc w5 _=w6 at hE bE ⊢
  have c3:w6.cell? ⟨w5.heap.size,3,none⟩=some (.string ⟨#[120]⟩):=cell_of_row _ _ 3 _ _ _ hE
  go_wp2_with fail
  go_ret
  exact⟨rfl,bstep HX.out.2.1 bE⟩
 ·skip
  (go_simp)
  refine hK.out _ _ ?_ (fun hHeld=>?_)
  ·exact⟨trivial,KS.out _ (balloc b2d _)⟩
  clear hK K
  try simp only[Act.put,q1,q2,q3]
  have hE:(w2.alloc (.cells #[.string ⟨#[]⟩,.int .u64 0,.int .u8 0,.string ⟨#[]⟩] 29)).drew.heap[w2.heap.size]? = some (.cells #[.string ⟨#[]⟩,.int .u64 0,.int .u8 0,.string ⟨#[]⟩] 29 (0,0)):=heap_alloc_new w2 (.cells #[.string ⟨#[]⟩,.int .u64 0,.int .u8 0,.string ⟨#[]⟩] 29)
  have bE:=bdrew (balloc (bself w2) (.cells #[.string ⟨#[]⟩,.int .u64 0,.int .u8 0,.string ⟨#[]⟩] 29))
  generalize World.drew (World.alloc w2 _)=w4 at hE bE ⊢
  refine ro 6 (fun K hK=>?_)
  (go_simp;go_at_call 14;refine (HGet.out _ bE).mono ?_;rintro _ w5 ⟨rfl,hb5⟩;have b5:=bstep bE hb5;go_wp2_with fail)
  refine hK.out _ _ ?_ (fun hHeld=>?_)
  ·exact⟨trivial,KS.out _ b5⟩
  clear hK K
  try simp only[Act.put,q1,q2,q3]
  have hE5:=(hb5.block _ (Array.getElem?_eq_some_iff.1 hE).1).trans hE
  have bR:Below w2.heap.size w2 (World.setRow w5 w2.heap.size #[.string ⟨#[97]⟩,.int .u64 2,.int .u8 1,.string ⟨#[120]⟩]):=below_setRow b5 (Nat.le_refl _) _
  refine rtk 7 ?_
  refine rtk 8 ?_
  refine rtk 9 ?_
  refine rtk 10 ?_
  refine ro 12 (fun K hK=>?_)
  (refine wp_storeR 29 (.tmp 4) (.tmp 30) rfl _ rfl _ #[.string ⟨#[97]⟩,.int .u64 2,.int .u8 1,.string ⟨#[120]⟩] rfl hE5 (by kernel_rfl) (by rfl) (by simp[Value.oneCell']) ?_)
  refine hK.out _ _ ?_ (fun hHeld=>?_)
  ·exact⟨trivial,KS.out _ bR⟩
  clear hK K
  try simp only[Act.put]
  refine rtk 13 ?_
  refine rtk 14 ?_
  refine rdn ?_
  clear hHeld
  have hE6:=setRow_heap _ _ _ #[.string ⟨#[97]⟩,.int .u64 2,.int .u8 1,.string ⟨#[120]⟩] _ _ hE5
  generalize World.setRow _ _ _=w6 at hE6 bR ⊢
  have c3:w6.cell? ⟨w2.heap.size,3,none⟩=some (.string ⟨#[120]⟩):=cell_of_row _ _ 3 _ _ _ hE6
  go_wp2_with fail
  go_ret
  exact⟨rfl,bstep HX.out.2.1 bR⟩
end Go.Proofs.YtchjknbideoieaaGreatDoor
