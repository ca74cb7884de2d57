/- What is proved here: plain laws of a number's bytes (groups of seven bits, least first): how one group is taken off, how many there are. No program in sight. No condition. plain laws of the number that stands ahead in bytes: what it is, how many bytes it has, its fault; that laid numbers are taken back, and what is taken is what is laid. No program in sight. No condition. a .. -/
import Derived.WalkKit
namespace Go.Proofs.YtchjknbideoieaaGreatDoor
set_option maxRecDepth 100000
set_option maxHeartbeats 8000000
def numF:Nat→Nat→List UInt8
 | 0,n=>[UInt8.ofNat n]
 | f+1,n=>if n≤127 then [UInt8.ofNat n] else UInt8.ofNat (n%128+128)::numF f (n/128)
def num (n:Nat):List UInt8:=numF 9 n
theorem numF_succ (f:Nat):∀n,n<128 ^ (f+1)→numF (f+1) n=numF f n:=by
 induction f with
 | zero=>intro n h;simp only[numF];rw[if_pos (by simp at h;omega)]
 | succ f ih =>
  intro n h
  have h2:n/128<128 ^ (f+1):=by
   rw[Nat.div_lt_iff_lt_mul (by omega)]
   rw[Nat.pow_succ] at h
   exact h
  show (if n≤127 then [UInt8.ofNat n] else UInt8.ofNat (n%128+128)::numF (f+1) (n/128))=numF (f+1) n
  rw[ih _ h2]
  rfl
theorem num_small (n:Nat) (h:n≤127):num n=[UInt8.ofNat n]:=by simp[num,numF,h]
theorem num_step (n:Nat) (h:127<n) (hn:n<18446744073709551616):num n=UInt8.ofNat (n%128+128)::num (n/128):=by
 have:num n=UInt8.ofNat (n%128+128)::numF 8 (n/128):=by
  unfold num
  rw[show (9:Nat)=8+1 from rfl,numF,if_neg (by omega)]
 rw[this,num,numF_succ 8 (n/128) (by simp;omega)]
theorem numF_length (f:Nat):∀n,1≤(numF f n).length∧(numF f n).length≤f+1:=by
 induction f with
 | zero=>intro n;simp[numF]
 | succ f ih =>
  intro n
  rw[numF]
  split
  ·simp
  ·have:=ih (n/128);simp;omega
theorem or128:∀a:Nat,a<256→a ||| 128=a%128+128:=by decide +kernel
theorem byte_or128 (n:Nat):Go.bits .or .u8 ((n:Int)%256) 128=((UInt8.ofNat (n%128+128)).toNat:Int):=by
 have h:((n:Int)%256)=((n%256:Nat):Int):=by omega
 rw[h,show (128:Int)=((128:Nat):Int) from rfl,u8_or_nat _ _ (by omega) (by omega),or128 _ (by omega)]
 simp[UInt8.toNat_ofNat']
 omega
theorem byte_of (n:Nat):((n:Int)%256)=((UInt8.ofNat n).toNat:Int):=by
 simp[UInt8.toNat_ofNat']
theorem num_length (n:Nat):1≤(num n).length∧(num n).length≤10:=numF_length 9 n
def fix:Nat→Nat→List UInt8
 | _,0=>[]
 | n,k+1=>UInt8.ofNat n::fix (n/256) k
theorem fix_length (k:Nat):∀n,(fix n k).length=k:=by
 induction k with
 | zero=>intro n;rfl
 | succ k ih=>intro n;simp[fix,ih]
theorem fix_rel {n k j m:Nat} (l:List UInt8) (e:l++fix k (m-j)=fix n m) (h:j<m):(l++[UInt8.ofNat k])++fix (k/256) (m-(j+1))=fix n m:=by
 rw[←e,show m-j=(m-(j+1))+1 from by omega,fix];simp
def fixN (many:Int):Nat:=(max 0 (min many 8)).toNat
theorem fixN8:fixN 8=8:=by decide
theorem fixN_le (many:Int):fixN many≤8:=by unfold fixN;omega
end Go.Proofs.YtchjknbideoieaaGreatDoor
namespace Go.Proofs.YtchjknbideoieaaGreatDoor
set_option maxRecDepth 100000
set_option maxHeartbeats 8000000
def numG:Nat→Nat→List UInt8→Nat × Nat × Nat
 | _,_,[]=>(0,0,10)
 | k,n,x::r=>if k=9∧1<x.toNat then (0,0,11) else
   if x.toNat<128 then (if 0<k∧x.toNat=0 then (0,0,11) else (n+x.toNat%128*128 ^ k,k+1,0)) else numG (k+1) (n+x.toNat%128*128 ^ k) r
def number (l:List UInt8):Nat × Nat × Nat:=numG 0 0 l
theorem numG_k (l:List UInt8):∀k n,(numG k n l).2.1=0∨((numG k n l).2.2=0∧k<(numG k n l).2.1∧(numG k n l).2.1≤k+l.length):=by
 induction l with
 | nil=>intro k n;left;rfl
 | cons x r ih =>
  intro k n
  rw[numG]
  split
  ·left;rfl
  ·split
   ·split
    ·left;rfl
    ·right;exact⟨rfl,Nat.lt_succ_self _,by simp only[List.length_cons];omega⟩
   ·rcases ih (k+1) (n+x.toNat%128*128 ^ k) with h|⟨h0,h1,h2⟩
    ·left;exact h
    ·right;exact⟨h0,by omega,by simp only[List.length_cons];omega⟩
theorem number_le (l:List UInt8):(number l).2.1≤l.length:=by
 rcases numG_k l 0 0 with h|⟨_,_,h⟩
 ·unfold number;omega
 ·unfold number;omega
theorem numG_lt (l:List UInt8):∀k n,k≤9→n<128 ^ k→(numG k n l).1<18446744073709551616:=by
 induction l with
 | nil=>intro k n _ _;simp[numG]
 | cons x r ih =>
  intro k n hk hn
  rw[numG]
  split
  ·simp
  ·rename_i h9
   have hstep:n+x.toNat%128*128 ^ k<128 ^ (k+1):=by
    have h1:x.toNat%128*128 ^ k≤127*128 ^ k:=Nat.mul_le_mul_right _ (by omega)
    rw[Nat.pow_succ]
    omega
   split
   ·split
    ·simp
    ·rcases Nat.lt_or_ge k 9 with h|h
     ·have h2:128 ^ (k+1)≤128 ^ 9:=Nat.pow_le_pow_right (by omega) (by omega)
      have h3:(128:Nat) ^ 9<18446744073709551616:=by decide
      simp only
      omega
     ·have e:k=9:=by omega
      subst e
      have h4:x.toNat≤1:=by omega
      have h5:x.toNat%128*128 ^ 9≤1*128 ^ 9:=Nat.mul_le_mul_right _ (by omega)
      have h6:(128:Nat) ^ 9+128 ^ 9≤18446744073709551616:=by decide
      simp only
      omega
   ·rcases Nat.lt_or_ge k 9 with h|h
    ·exact ih _ _ (by omega) hstep
    ·exfalso
     have e:k=9:=by omega
     subst e
     omega
theorem number_lt (l:List UInt8):(number l).1<18446744073709551616:=numG_lt l 0 0 (by omega) (by simp)
def leN:List UInt8→Nat
 | []=>0
 | x::r=>x.toNat+256*leN r
theorem leN_lt (l:List UInt8):leN l<256 ^ l.length:=by
 induction l with
 | nil=>simp[leN]
 | cons x r ih =>
  have hx:x.toNat<256:=UInt8.toNat_lt x
  rw[leN,List.length_cons,Nat.pow_succ]
  omega
theorem leN_append (l m:List UInt8):leN (l++m)=leN l+256 ^ l.length*leN m:=by
 induction l with
 | nil=>simp[leN]
 | cons x r ih =>
  rw[List.cons_append,leN,leN,ih,List.length_cons,Nat.pow_succ,Nat.mul_add,←Nat.mul_assoc,Nat.mul_comm 256 (256 ^ r.length),Nat.add_assoc]
abbrev Rs:=List UInt8 × Nat
def sNum (s:Rs):Nat × Rs:=if s.2=0 then ((number s.1).1,s.1.drop (number s.1).2.1,(number s.1).2.2) else (0,s)
def sStr (most:Int) (s:Rs):List UInt8 × Rs :=
 if s.2≠0 then ([],s) else
 if (number s.1).2.2≠0 then ([],s.1,(number s.1).2.2) else
 if max 0 most<((number s.1).1:Int) then ([],s.1,4) else
 if s.1.length-(number s.1).2.1<(number s.1).1 then ([],s.1,10) else
  ((s.1.take ((number s.1).2.1+(number s.1).1)).drop (number s.1).2.1,s.1.drop ((number s.1).2.1+(number s.1).1),0)
def sFix (many:Int) (s:Rs):Nat × Rs :=
 if s.2≠0 then (0,s) else
 if many<0∨8<many then (0,s.1,1) else
 if (s.1.length:Int)<many then (0,s.1,10) else (leN (s.1.take many.toNat),s.1.drop many.toNat,0)
def sEnd (s:Rs):Nat:=if s.2=0∧0<s.1.length then 12 else s.2
theorem sNum_lt (s:Rs):(sNum s).1<18446744073709551616:=by
 unfold sNum;split
 ·exact number_lt _
 ·simp
theorem ofNat_small (n:Nat) (h:n<256):(UInt8.ofNat n).toNat=n:=by rw[UInt8.toNat_ofNat'];omega
theorem pow128_9:(128:Nat) ^ 9=9223372036854775808:=by decide
theorem lt_of_pow9 (n:Nat) (h:n*128 ^ 9<18446744073709551616):n≤1:=by
 rw[pow128_9] at h
 omega
theorem numG_num (f:Nat):∀(k acc n:Nat) (r:List UInt8),k+f=9→n*128 ^ k<18446744073709551616→(0<k→0<n)→numG k acc (numF f n++r)=(acc+n*128 ^ k,k+(numF f n).length,0):=by
 induction f with
 | zero =>
  intro k acc n r hk hn h0
  have e:k=9:=by omega
  subst e
  have h1:=lt_of_pow9 n hn
  have h2:=h0 (by omega)
  have h3:=ofNat_small n (by omega)
  simp only[numF,List.cons_append,List.nil_append,numG,h3]
  rw[if_neg (by omega),if_pos (by omega),if_neg (by omega),Nat.mod_eq_of_lt (by omega)]
  rfl
 | succ f ih =>
  intro k acc n r hk hn h0
  rw[numF]
  split
  ·rename_i h1
   have h3:=ofNat_small n (by omega)
   simp only[List.cons_append,List.nil_append,numG,h3]
   rw[if_neg (by omega),if_pos (by omega),if_neg (by omega),Nat.mod_eq_of_lt (by omega)]
   rfl
  ·rename_i h1
   have h3:=ofNat_small (n%128+128) (by omega)
   have h4:(n%128+128)%128=n%128:=by omega
   have h5:n/128*128≤n:=Nat.div_mul_le_self n 128
   have h6:n/128*128 ^ (k+1)<18446744073709551616:=by
    rw[Nat.pow_succ,Nat.mul_comm (128 ^ k) 128,←Nat.mul_assoc]
    exact Nat.lt_of_le_of_lt (Nat.mul_le_mul_right _ h5) hn
   simp only[List.cons_append,numG,h3]
   rw[if_neg (by omega),if_neg (by omega),ih (k+1) _ (n/128) r (by omega) h6 (by omega),h4]
   have h7:n%128*128 ^ k+n/128*128 ^ (k+1)=n*128 ^ k:=by
    rw[Nat.pow_succ,Nat.mul_comm (128 ^ k) 128,←Nat.mul_assoc,←Nat.add_mul]
    congr 1
    omega
   rw[Nat.add_assoc,h7,List.length_cons]
   have h8:k+1+(numF f (n/128)).length=k+((numF f (n/128)).length+1):=by omega
   rw[h8]
theorem number_num (n:Nat) (r:List UInt8) (hn:n<18446744073709551616):number (num n++r)=(n,(num n).length,0):=by
 have:=numG_num 9 0 0 n r (by omega) (by simpa using hn) (by omega)
 unfold number num
 rw[this]
 simp
theorem numG_back (l:List UInt8):∀(k acc v k':Nat),k≤9→numG k acc l=(v,k',0)→∃n,v=acc+n*128 ^ k∧k'=k+(numF (9-k) n).length∧l.take (numF (9-k) n).length=numF (9-k) n∧(0<k→0<n):=by
 induction l with
 | nil=>intro k acc v k' _ h;simp[numG] at h
 | cons x r ih =>
  intro k acc v k' hk h
  have hx:x.toNat<256:=UInt8.toNat_lt x
  rw[numG] at h
  split at h
  ·simp at h
  ·rename_i h1
   split at h
   ·rename_i h2
    split at h
    ·simp at h
    ·rename_i h3
     simp only[Prod.mk.injEq,and_true] at h
     obtain⟨rfl,rfl⟩:=h
     have e:numF (9-k) x.toNat=[x]:=by
      rcases Nat.eq_zero_or_pos (9-k) with h0|h0
      ·rw[h0];simp[numF]
      ·rw[show 9-k=(9-k-1)+1 from by omega,numF,if_pos (by omega)];simp
     refine⟨x.toNat,?_,?_,?_,fun _=>by omega⟩
     ·rw[Nat.mod_eq_of_lt h2]
     ·rw[e];rfl
     ·rw[e];rfl
   ·rename_i h2
    have hk9:k<9:=by omega
    obtain⟨n,h3,h4,h5,h6⟩:=ih (k+1) _ v k' (by omega) h
    have h7:=h6 (by omega)
    have e:numF (9-k) (x.toNat%128+128*n)=x::numF (9-(k+1)) n:=by
     rw[show 9-k=(9-(k+1))+1 from by omega,numF,if_neg (by omega)]
     have e1:(x.toNat%128+128*n)%128+128=x.toNat:=by omega
     have e2:(x.toNat%128+128*n)/128=n:=by omega
     rw[e1,e2]
     simp
    refine⟨x.toNat%128+128*n,?_,?_,?_,fun _=>by omega⟩
    ·rw[h3,Nat.add_mul,Nat.add_assoc]
     congr 2
     rw[Nat.pow_succ,Nat.mul_comm (128 ^ k) 128,←Nat.mul_assoc,Nat.mul_comm n 128]
    ·rw[e,h4,List.length_cons];omega
    ·rw[e,List.length_cons,List.take_succ_cons,h5]
theorem number_back (l:List UInt8) (n k:Nat) (h:number l=(n,k,0)):k=(num n).length∧l.take k=num n:=by
 obtain⟨m,h1,h2,h3,_⟩:=numG_back l 0 0 n k (by omega) h
 simp only[Nat.zero_add,Nat.pow_zero,Nat.mul_one,Nat.sub_zero] at h1 h2 h3
 subst h1
 exact⟨h2,by rw[h2];exact h3⟩
theorem leN_fix (k:Nat):∀n,leN (fix n k)=n%256 ^ k:=by
 induction k with
 | zero=>intro n;simp[fix,leN,Nat.mod_one]
 | succ k ih =>
  intro n
  rw[fix,leN,ih,Nat.pow_succ,Nat.mul_comm (256 ^ k) 256,Nat.mod_mul,UInt8.toNat_ofNat']
theorem leN_fix8 (n:Nat) (h:n<18446744073709551616):leN (fix n 8)=n:=by
 rw[leN_fix,Nat.mod_eq_of_lt]
 exact Nat.lt_of_lt_of_le h (by decide)
theorem sNum_num (n:Nat) (r:List UInt8) (hn:n<18446744073709551616):sNum (num n++r,0)=(n,r,0):=by
 unfold sNum
 rw[if_pos rfl]
 simp only[number_num n r hn,List.drop_left]
theorem sFix_fix8 (n:Nat) (r:List UInt8) (hn:n<18446744073709551616):sFix 8 (fix n 8++r,0)=(n,r,0):=by
 unfold sFix
 have hl:=fix_length 8 n
 rw[if_neg (by simp),if_neg (by omega),if_neg (by simp[hl];omega)]
 have h1:(fix n 8++r).take 8=fix n 8:=by rw[List.take_append_of_le_length (by omega),List.take_of_length_le (by omega)]
 have h2:(fix n 8++r).drop 8=r:=by rw[List.drop_append_of_le_length (by omega),List.drop_of_length_le (by omega)];rfl
 simp only[show (8:Int).toNat=8 from rfl,h1,h2,leN_fix8 n hn]
theorem sStr_str (most:Int) (t r:List UInt8) (hm:(t.length:Int)≤max 0 most) (ht:t.length<18446744073709551616):sStr most (num t.length++t++r,0)=(t,r,0):=by
 unfold sStr
 have hn:=number_num t.length (t++r) ht
 rw[←List.append_assoc] at hn
 have hl:(num t.length++t++r).length=(num t.length).length+t.length+r.length:=by simp;omega
 have h1:(num t.length++t++r).take ((num t.length).length+t.length)=num t.length++t:=by
  rw[List.take_append_of_le_length (by simp),List.take_of_length_le (by simp)]
 have h2:(num t.length++t++r).drop ((num t.length).length+t.length)=r:=by
  rw[show (num t.length).length+t.length=(num t.length++t).length from by simp,List.drop_left]
 simp only[hn,hl,h1,h2,List.drop_left]
 rw[if_neg (by simp),if_neg (by simp),if_neg (by omega),if_neg (by omega)]
end Go.Proofs.YtchjknbideoieaaGreatDoor
namespace Go.Proofs.YtchjknbideoieaaGreatDoor
set_option maxRecDepth 100000
set_option maxHeartbeats 8000000
structure Hd where
 k:Nat
 lv:Nat
 g:Nat
 e:Nat
 n:Nat
deriving DecidableEq
def Hd.ok (h:Hd):Prop:=h.k<256∧h.lv<256∧h.g<18446744073709551616∧h.e<18446744073709551616∧h.n<18446744073709551616
def hd0:Hd:=⟨0,0,0,0,0⟩
def rightH (h:Hd):Bool:=if h.k=2 then decide (h.lv<5) else decide ((h.k=1∨h.k=3)∧h.lv=0∧h.g=0)
def sTant:List UInt8:=[116,97,110,116]
def layH (h:Hd):List UInt8:=sTant++[UInt8.ofNat h.k,UInt8.ofNat h.lv]++fix h.g 8++fix h.e 8++fix h.n 8
theorem layH_len (h:Hd):(layH h).length=30:=by simp[layH,sTant,fix_length]
def readH (l:List UInt8):Hd:=⟨(l.getD 4 0).toNat,(l.getD 5 0).toNat,leN ((l.drop 6).take 8),leN ((l.drop 14).take 8),leN ((l.drop 22).take 8)⟩
theorem leN_take8 (l:List UInt8):leN (l.take 8)<18446744073709551616:=by
 have h:=leN_lt (l.take 8)
 have h2:(l.take 8).length≤8:=by rw[List.length_take];omega
 have h3:256 ^ (l.take 8).length≤256 ^ 8:=Nat.pow_le_pow_right (by omega) h2
 have h4:(256:Nat) ^ 8=18446744073709551616:=by decide
 omega
theorem readH_ok (l:List UInt8):(readH l).ok:=⟨UInt8.toNat_lt _,UInt8.toNat_lt _,leN_take8 _,leN_take8 _,leN_take8 _⟩
def takeH (l:List UInt8):Hd × Nat :=
 if l.length<30 then (hd0,10) else if l.take 4=sTant∧rightH (readH l)=true then (readH l,0) else (hd0,70)
theorem layH_split (h:Hd) (r:List UInt8):layH h++r=sTant++(UInt8.ofNat h.k::UInt8.ofNat h.lv::(fix h.g 8++(fix h.e 8++(fix h.n 8++r)))):=by
 simp[layH]
theorem take_fix (n:Nat) (r:List UInt8) (h:n<18446744073709551616):leN ((fix n 8++r).take 8)=n:=by
 rw[List.take_left' (fix_length 8 n),leN_fix8 n h]
theorem readH_lay (h:Hd) (r:List UInt8) (ok:h.ok):readH (layH h++r)=h:=by
 obtain⟨h1,h2,h3,h4,h5⟩:=ok
 obtain⟨k,lv,g,e,n⟩:=h
 rw[layH_split]
 unfold readH
 have d6:(sTant++(UInt8.ofNat k::UInt8.ofNat lv::(fix g 8++(fix e 8++(fix n 8++r))))).drop 6=fix g 8++(fix e 8++(fix n 8++r)):=rfl
 have d14:(sTant++(UInt8.ofNat k::UInt8.ofNat lv::(fix g 8++(fix e 8++(fix n 8++r))))).drop 14=fix e 8++(fix n 8++r):=by
  rw[show (14:Nat)=6+8 from rfl,←List.drop_drop,d6,List.drop_left' (fix_length 8 g)]
 have d22:(sTant++(UInt8.ofNat k::UInt8.ofNat lv::(fix g 8++(fix e 8++(fix n 8++r))))).drop 22=fix n 8++r:=by
  rw[show (22:Nat)=14+8 from rfl,←List.drop_drop,d14,List.drop_left' (fix_length 8 e)]
 show Hd.mk (UInt8.ofNat k).toNat (UInt8.ofNat lv).toNat _ _ _=_
 rw[d6,d14,d22,take_fix g _ h3,take_fix e _ h4,take_fix n _ h5,ofNat_small k h1,ofNat_small lv h2]
theorem takeH_lay (h:Hd) (r:List UInt8) (ok:h.ok):takeH (layH h++r)=if rightH h=true then (h,0) else (hd0,70):=by
 unfold takeH
 have hl:=layH_len h
 rw[if_neg (by rw[List.length_append];omega),readH_lay h r ok]
 have e4:(layH h++r).take 4=sTant:=by rw[layH_split];rfl
 simp only[e4,true_and]
def nonceOf (p:Nat):List UInt8:=fix p 8++[0,0,0,0]
theorem nonce_len (p:Nat):(nonceOf p).length=12:=by simp[nonceOf,fix_length]
end Go.Proofs.YtchjknbideoieaaGreatDoor
