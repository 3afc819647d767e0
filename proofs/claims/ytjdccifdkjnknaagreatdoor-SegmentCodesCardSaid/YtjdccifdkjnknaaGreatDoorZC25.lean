/- What rows come to: the program's rollup.Roll, walked. -/
import Derived.Test.YtjdccifdkjnknaaGreatDoorZC24
